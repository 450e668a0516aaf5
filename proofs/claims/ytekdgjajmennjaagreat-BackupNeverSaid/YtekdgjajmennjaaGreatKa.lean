/- Parts of the proof, in one file. -/
import Derived.WalkKit
import Derived.Lib.Bytealg
import Derived.Maps.AppendAt
import Derived.Lib.AppendStr
import Derived.Laws.Externs
import Derived.KernelRfl
import Derived.Lib.SlBytesRow
import Derived.Lib.BufferRead
import Derived.Lib.ConvBytes
import Derived.Lib.BytesEntry
import Derived.ChangeKeysEq
import Derived.Laws.StructEq
import Derived.MapKept
import Derived.WideKeyRuns
import Derived.Scope
import Derived.Below
import Derived.ChangeSame
import Derived.ChangeCalls
import Derived.ChangeStays
import Derived.OpenShut
import Derived.ProofKit
import Derived.JoinedCond
import Derived.Test.YtekdgjajmennjaaGreatProg
import Derived.Lib.Walk
import Derived.Lib.SliceRun
import Derived.Lib.AppendZerosOnto
import Derived.Test.YtekdgjajmennjaaGreatRows
open Array renaming length_toList → yas, getElem?_toList → ybr, toArray_toList → ybx, toList_map → ycm
open BitVec renaming ofInt → ybw
open Bool renaming and_eq_true → yi
open Go renaming TypeId → yb, Program → yg, Value → yh, Operand → yn, FuncId → yu, World → yy
open List renaming getElem?_eq_some_iff → yo, range → yq, length_append → yr, nil_append → yv, length_map → yx, cons_append → yaa, replicate → yab, getElem?_eq_getElem → yac, map_cons → yad, length_take → yae, getElem?_map → yaf, getElem?_append_left → yah, length_cons → yai, append_assoc → yak, getElem?_append_right → yam, mem_singleton → yao, mem_cons_self → yap, getElem?_cons_succ → yar, mem_cons_of_mem → yau, eq_nil_of_length_eq_zero → yaz, all_eq_true → yba, length_set → ybc, ext_getElem? → ybd, take_append_drop → ybf, getElem?_set → ybg, getElem?_cons_zero → ybh, mem_of_mem_take → ybn, length_drop → ybq, mem_map → ybu, getElem?_take → ycd, length_nil → ych, take_of_length_le → ycn
open Nat renaming le_refl → ym, add_mul → yat, min_eq_left → yav, zero_add → yax, lt_or_ge → ybp, mul_le_mul_right → ycb, add_assoc → yce
open Option renaming bind_eq_some_iff → yc, map_eq_some_iff → yp
open Option.some renaming injEq → yj, inj → ybe
open Prod.mk renaming injEq → yl
set_option linter.unusedVariables false
set_option linter.unusedSimpArgs false
namespace Go.Ev
abbrev yzz:List UInt8:=[0,0,0,0,0,0,0,0,0,0,0,0,0,0,0,0,0,0,0,0,0,0,0,0,0,0,0,0,0,0,0,0]
theorem ynd {c:Prop} [Decidable c] (h:¬c):¬decide c=true:=by simpa using h
theorem ytt:True:=trivial
end Go.Ev
section
namespace Go.Ev
inductive Pl where
 |int (k:IntKind) (n:Int)
 |bool (b:Bool)
 |str (s:ByteArray)
 |ptr0|fn0|if0|map0
 |fnv (f:yu)
 |agg (xs:List Pl)
 |arr (n s:Nat) (xs:List Pl)
 |sl (nn:Option Bool) (s:Nat) (xs:List Pl)
 |iface (t:yb) (x:Pl)
 deriving Inhabited
mutual
def Pl.size:Pl→Nat
 |.agg xs=>Pl.sizes xs
 |.arr n s _=>n*s
 |_=>1
def Pl.sizes:List Pl→Nat
 |[]=>0
 |x::r=>x.size+Pl.sizes r
end
def Pl.isAgg:Pl→Bool
 |.agg _=>true
 |.arr _ _ _=>true
 |_=>false
def allSz(s:Nat)(xs:List Pl):Prop:=∀x,x∈xs→x.size=s
def Zq2(nn:Option Bool)(A:Option Addr):Prop:=∀b,nn=some b→A.isSome=b
theorem ZY(A:Option Addr):Zq2 none A:=λb h=>by cases h
theorem Qh{A:Option Addr}(h:A.isSome=true):Zq2 (some true) A:=λb e=>by cases e;exact h
theorem Zr7{A:Option Addr}(h:A=none):Zq2 (some false) A:=λb e=>by cases e;rw[h];rfl
def Xr(w:yy)(S:Nat→Nat→Prop)(b o:Nat)(us:List yh):Prop:=
 ∀j u,us[j]? =some u→w.cell? ⟨b,o+j,none⟩=some u∧S b (o+j)
mutual
def repC(w:yy)(S:Nat→Nat→Prop):Pl→List yh→Prop
 |.int k n,vs=>vs=[.int k n]
 |.bool b,vs=>vs=[.bool b]
 |.str s,vs=>vs=[.string s]
 |.ptr0,vs=>vs=[.pointer none]
 |.fn0,vs=>vs=[.nilFunc]
 |.if0,vs=>vs=[.nilIface]
 |.map0,vs=>vs=[.map none]
 |.fnv f,vs=>vs=[.func (.func f) #[] #[]]
 |.agg xs,vs=>repCs w S xs vs
 |.arr n s xs,vs=>xs.length=n∧allSz s xs∧repCs w S xs vs
 |.sl nn s xs,vs=>allSz s xs∧∃A c,vs=[.slice A xs.length c]∧xs.length≤c∧c≤maxLen∧Zq2 nn A∧(A=none→c=0)∧
   (xs≠[]→∃b o us,A=some ⟨b,o,none⟩∧repCs w S xs us∧Xr w S b o us)
 |.iface t x,vs=>∃v,vs=[.iface t v]∧(x.isAgg=true→∃cs:Array yh,v=.agg cs∧repC w S x cs.toList)∧(x.isAgg=false→repC w S x [v])
def repCs(w:yy)(S:Nat→Nat→Prop):List Pl→List yh→Prop
 |[],vs=>vs=[]
 |x::xs,vs=>∃us us',vs=us++us'∧repC w S x us∧repCs w S xs us'
end
mutual
def Pl.soft:Pl→Pl
 |.agg xs=>.agg (Pl.softs xs)
 |.arr n s xs=>.arr n s (Pl.softs xs)
 |.sl _ s xs=>.sl none s xs
 |.iface t x=>.iface t (Pl.soft x)
 |x=>x
def Pl.softs:List Pl→List Pl
 |[]=>[]
 |x::r=>x.soft::Pl.softs r
end
inductive Dv where
 |p (x:Pl)
 |elem (x:Pl)
 |ref (id off:Nat) (path:List Nat)
 |own (id:Nat) (nn:Option Bool) (s:Nat) (xs:List Pl)
 |view (id off:Nat) (path:List Nat) (s lo n:Nat)
 |agg (xs:List Dv)
 |arr (n s:Nat) (xs:List Dv)
 |fn (f:yu) (cap:List Dv)
 |iface (t:yb) (x:Dv)
 |tup (xs:List Dv)
 |mp (id:Nat)
 |rv (id v s lo n:Nat)
 |rref (id v off:Nat) (path:List Nat)
 |junk
 deriving Inhabited
mutual
def Dv.size:Dv→Nat
 |.p x=>x.size
 |.agg xs=>Dv.sizes xs
 |.arr n s _=>n*s
 |_=>1
def Dv.sizes:List Dv→Nat
 |[]=>0
 |x::r=>x.size+Dv.sizes r
end
def Dv.isAgg:Dv→Bool
 |.p x=>x.isAgg
 |.agg _=>true
 |.arr _ _ _=>true
 |_=>false
inductive Ent where
 |var (d:Dv) (st:Bool)
 |log (s:Nat) (e:yb) (xs:List Pl)
 |map (t:yb) (kvs:List (Pl×Pl))
 |row (v s:Nat) (st:Bool) (e:yb) (d:Dv)
 |gone
 deriving Inhabited
structure Sg where
 F:Nat→Nat→Prop
 B:Nat→Prop
 m:List (Option Nat)
 H:List Ent
 w:yy
def rowN:Dv→Nat→Option Nat
 |.p (.arr n s' _),s=>if s'=s then some n else none
 |.arr n s' _,s=>if s'=s then some n else none
 |_,_=>none
def Ent.unlocked:Ent→Nat→Prop
 |.var _ st,_=>st=false
 |.log s _ xs,o=>o < xs.length*s
 |.map _ _,_=>False
 |.row _ s st _ d,o=>st=false∧∃N,rowN d s=some N∧o < N*s
 |.gone,_=>True
def Sg.stab(σ:Sg)(b o:Nat):Prop:=
 (σ.F b o∨σ.B b)∧∀(id:Nat)(e:Ent),σ.m[id]? =some (some b)→σ.H[id]? =some e→e.unlocked o
def ownFront(σ:Sg)(id s:Nat)(len:Nat)(A:Option Addr)(c:Nat):Prop:=
 ∃e ys,σ.H[id]? =some (.log s e ys)∧len≤ys.length∧(ys.length=len→
  (σ.m[id]? =some none∧A=none∧c=0)∨
  ∃b cur,σ.m[id]? =some (some b)∧A=some ⟨b,0,none⟩∧σ.w.heap[b]? =some (.cells cur e (0,0))∧cur.size=c*s)
def rowAt(σ:Sg)(id v s lo:Nat)(A:Option Addr)(c:Nat):Prop:=
 ∃v' s' st e d,σ.H[id]? =some (.row v' s' st e d)∧v≤v'∧(v'=v→s'=s∧
  ((σ.m[id]? =some none∧A=none∧lo+c=0)∨∃b cur,σ.m[id]? =some (some b)∧σ.w.heap[b]? =some (.cells cur e (0,0))∧cur.size=(lo+c)*s∧(0 < c→A=some ⟨b,lo*s,none⟩)))
def rowIs(σ:Sg)(id v b o off:Nat):Prop:=∃v' s st e d,σ.H[id]? =some (.row v' s st e d)∧v≤v'∧(v'=v→σ.m[id]? =some (some b)∧o=off)
def big:Nat:=4294967296
def ZaC(f:yu):yu:=if f < big then f else f - big
mutual
def repD(σ:Sg):Dv→List yh→Prop
 |.p x,vs=>repC σ.w σ.stab x vs
 |.elem x,vs=>∃b o us,vs=[.pointer (some ⟨b,o,none⟩)]∧repC σ.w σ.stab x us∧Xr σ.w σ.stab b o us
 |.ref id off _,vs=>∃b,σ.m[id]? =some (some b)∧(∃d st,σ.H[id]? =some (.var d st))∧vs=[.pointer (some ⟨b,off,none⟩)]
 |.own id nn s xs,vs=>allSz s xs∧∃A c,vs=[.slice A xs.length c]∧xs.length≤c∧c≤maxLen∧Zq2 nn A∧(A=none→c=0)∧
   (xs≠[]→∃b o us,A=some ⟨b,o,none⟩∧repCs σ.w σ.stab xs us∧Xr σ.w σ.stab b o us)∧ownFront σ id s xs.length A c
 |.view id off _ s lo n,vs=>∃b c a,σ.m[id]? =some (some b)∧(∃d st,σ.H[id]? =some (.var d st))∧vs=[.slice (some a) n c]∧n≤c∧c≤maxLen∧
   (0 < n→a=⟨b,off+lo*s,none⟩)
 |.agg xs,vs=>repDs σ xs vs
 |.arr n s xs,vs=>xs.length=n∧(∀x,x∈xs→x.size=s)∧repDs σ xs vs
 |.fn f cap,vs=>∃fs cs,vs=[.func (.func (ZaC f)) fs cs]∧(if f < big then fs else cs)= #[]∧repVs σ cap (fs++cs).toList
 |.iface t x,vs=>∃v,vs=[.iface t v]∧(x.isAgg=true→∃cs:Array yh,v=.agg cs∧repD σ x cs.toList)∧(x.isAgg=false→repD σ x [v])
 |.tup xs,vs=>∃cs,vs=[.tuple cs]∧repVs σ xs cs.toList
 |.mp id,vs=>∃b,σ.m[id]? =some (some b)∧(∃t kvs,σ.H[id]? =some (.map t kvs))∧vs=[.map (some b)]
 |.rv id v s lo n,vs=>∃A c,vs=[.slice A n c]∧n≤c∧c≤maxLen∧(A=none→c=0)∧(0 < n→∃b o,A=some ⟨b,o,none⟩)∧rowAt σ id v s lo A c
 |.rref id v off _,vs=>∃b o,vs=[.pointer (some ⟨b,o,none⟩)]∧rowIs σ id v b o off
 |.junk,vs=>vs.length=1
def repDs(σ:Sg):List Dv→List yh→Prop
 |[],vs=>vs=[]
 |x::xs,vs=>∃us us',vs=us++us'∧repD σ x us∧repDs σ xs us'
def repVs(σ:Sg):List Dv→List yh→Prop
 |[],vs=>vs=[]
 |x::xs,vs=>∃v vs',vs=v::vs'∧((x.isAgg=true→∃cs:Array yh,v=.agg cs∧repD σ x cs.toList)∧(x.isAgg=false→repD σ x [v]))∧repVs σ xs vs'
end
def repDV(σ:Sg)(d:Dv)(v:yh):Prop:=
 (d.isAgg=true→∃cs:Array yh,v=.agg cs∧repD σ d cs.toList)∧(d.isAgg=false→repD σ d [v])
theorem Xr.mono{w w':yy}{S S':Nat→Nat→Prop}(h:∀(b o:Nat)(v:yh),w.cell? ⟨b,o,none⟩=some v→S b o→w'.cell? ⟨b,o,none⟩=some v∧S' b o)
 {b o:Nat} {us:List yh} (hc:Xr w S b o us):Xr w' S' b o us:=
 λj u hu=>let ⟨h1,h2⟩:=hc j u hu;h _ _ _ h1 h2
mutual
theorem WB{w w':yy}{S S':Nat→Nat→Prop}(h:∀(b o:Nat)(v:yh),w.cell? ⟨b,o,none⟩=some v→S b o→w'.cell? ⟨b,o,none⟩=some v∧S' b o):∀(x:Pl)(vs:List yh),repC w S x vs→repC w' S' x vs
 |.int _ _,_,hr=>by simpa[repC] using hr
 |.bool _,_,hr=>by simpa[repC] using hr
 |.str _,_,hr=>by simpa[repC] using hr
 |.ptr0,_,hr=>by simpa[repC] using hr
 |.fn0,_,hr=>by simpa[repC] using hr
 |.if0,_,hr=>by simpa[repC] using hr
 |.map0,_,hr=>by simpa[repC] using hr
 |.fnv _,_,hr=>by simpa[repC] using hr
 |.agg xs,vs,hr=>by
  simp only[repC] at hr ⊢
  exact repCs_mono h xs vs hr
 |.arr n s xs,vs,hr=>by
  simp only[repC] at hr ⊢
  exact⟨hr.1,hr.2.1,repCs_mono h xs vs hr.2.2⟩
 |.sl nn s xs,vs,hr=>by
  simp only[repC] at hr ⊢;obtain⟨h1,A,c,h2,h3,h4,h5,h6,h7⟩:=hr;refine⟨h1,A,c,h2,h3,h4,h5,h6,λhne=> ?_⟩;obtain⟨b,o,us,e1,e2,e3⟩:=h7 hne
  exact⟨b,o,us,e1,repCs_mono h xs us e2,e3.mono h⟩
 |.iface t x,vs,hr=>by
  simp only[repC] at hr ⊢;obtain⟨v,h1,h2,h3⟩:=hr;refine⟨v,h1,λha=> ?_,λha=>WB h x _ (h3 ha)⟩;obtain⟨cs,e1,e2⟩:=h2 ha;exact⟨cs,e1,WB h x _ e2⟩
theorem repCs_mono{w w':yy}{S S':Nat→Nat→Prop}(h:∀(b o:Nat)(v:yh),w.cell? ⟨b,o,none⟩=some v→S b o→w'.cell? ⟨b,o,none⟩=some v∧S' b o):∀(xs:List Pl)(vs:List yh),repCs w S xs vs→repCs w' S' xs vs
 |[],_,hr=>by simpa[repCs] using hr
 |x::xs,vs,hr=>by
  simp only[repCs] at hr ⊢;obtain⟨us,us',h1,h2,h3⟩:=hr;exact⟨us,us',h1,WB h x us h2,repCs_mono h xs us' h3⟩
end
structure Leaf(σ σ':Sg):Prop where
 cells:∀(b o:Nat)(v:yh),σ.w.cell? ⟨b,o,none⟩=some v→σ.stab b o→σ'.w.cell? ⟨b,o,none⟩=some v∧σ'.stab b o
 var:∀(id b:Nat),σ.m[id]? =some (some b)→(∃d st,σ.H[id]? =some (.var d st))→σ'.m[id]? =some (some b)∧∃d st,σ'.H[id]? =some (.var d st)
 front:∀(id s len:Nat)(A:Option Addr)(c:Nat),ownFront σ id s len A c→ownFront σ' id s len A c
 map:∀(id b:Nat),σ.m[id]? =some (some b)→(∃t kvs,σ.H[id]? =some (.map t kvs))→σ'.m[id]? =some (some b)∧∃t kvs,σ'.H[id]? =some (.map t kvs)
 row:∀(id v s:Nat)(st:Bool)(e:yb)(d:Dv),σ.H[id]? =some (.row v s st e d)→∃v' st' d',σ'.H[id]? =some (.row v' s st' e d')∧v≤v'∧(v'=v→σ'.m[id]? =σ.m[id]? ∧
  ∀b cur,σ.m[id]? =some (some b)→σ.w.heap[b]? =some (.cells cur e (0,0))→∃cur',σ'.w.heap[b]? =some (.cells cur' e (0,0))∧cur'.size=cur.size)
theorem Leaf.refl(σ:Sg):Leaf σ σ:=⟨λ_ _ _ a b=>⟨a,b⟩,λ_ _ a b=>⟨a,b⟩,λ_ _ _ _ _ a=>a,λ_ _ a b=>⟨a,b⟩,λ_ v _ st _ d h=>⟨v,st,d,h,ym _,λ_=>⟨rfl,λb cur _ hc=>⟨cur,hc,rfl⟩⟩⟩⟩
theorem Leaf.trans{a b c:Sg}(h:Leaf a b)(k:Leaf b c):Leaf a c:=
 ⟨λx o v h1 h2=>let ⟨h3,h4⟩:=h.cells x o v h1 h2;k.cells x o v h3 h4,λi x h1 h2=>let ⟨h3,h4⟩:=h.var i x h1 h2;k.var i x h3 h4,
  λi s l A cc h1=>k.front i s l A cc (h.front i s l A cc h1),λi x h1 h2=>let ⟨h3,h4⟩:=h.map i x h1 h2;k.map i x h3 h4,
  λi v s st e d h1=>by
   obtain⟨v2,st2,d2,k1,k2,k3⟩:=h.row i v s st e d h1;obtain⟨v3,st3,d3,l1,l2,l3⟩:=k.row i v2 s st2 e d2 k1;refine⟨v3,st3,d3,l1,Nat.le_trans k2 l2,λhv=> ?_⟩;have e1:v2=v:=by omega
   have e2:v3=v2:=by omega
   obtain⟨p1,p2⟩:=k3 e1;obtain⟨q1,q2⟩:=l3 e2;refine⟨q1.trans p1,λb cur hb hc=> ?_⟩;obtain⟨cur',r1,r2⟩:=p2 b cur hb hc;obtain⟨cur2,r3,r4⟩:=q2 b cur' (by rw[p1];exact hb) r1;exact⟨cur2,r3,by rw[r4,r2]⟩⟩
theorem ZBY{σ σ':Sg}(h:Leaf σ σ'){id v s lo:Nat}{A:Option Addr}{c:Nat}:rowAt σ id v s lo A c→rowAt σ' id v s lo A c:=by
 rintro⟨v',s',st,e,d,h1,h2,h3⟩;obtain⟨v2,st2,d2,k1,k2,k3⟩:=h.row _ _ _ _ _ _ h1;refine⟨v2,s',st2,e,d2,k1,Nat.le_trans h2 k2,λhv=> ?_⟩;have e1:v'=v:=by omega
 have e2:v2=v':=by omega
 obtain⟨q1,q2⟩:=k3 e2;obtain⟨q3,q4⟩:=h3 e1;refine⟨q3, ?_⟩;rcases q4 with⟨a1,a2⟩|⟨b,cur,a1,a2,a3,a4⟩
 ·exact .inl ⟨by rw[q1,a1],a2⟩
 ·obtain⟨cur',b1,b2⟩:=q2 b cur a1 a2;exact .inr ⟨b,cur',by rw[q1,a1],b1,by rw[b2,a3],a4⟩
theorem ZBZ{σ σ':Sg}(h:Leaf σ σ'){id v b o off:Nat}:rowIs σ id v b o off→rowIs σ' id v b o off:=by
 rintro⟨v',s',st,e,d,h1,h2,h3⟩;obtain⟨v2,st2,d2,k1,k2,k3⟩:=h.row _ _ _ _ _ _ h1;refine⟨v2,s',st2,e,d2,k1,Nat.le_trans h2 k2,λhv=> ?_⟩;have e1:v'=v:=by omega
 have e2:v2=v':=by omega
 rw[(k3 e2).1];exact h3 e1
mutual
theorem ZO{σ σ':Sg}(h:Leaf σ σ'):∀(d:Dv)(vs:List yh),repD σ d vs→repD σ' d vs
 |.p x,vs,hr=>by
  simp only[repD] at hr ⊢
  exact WB h.cells x vs hr
 |.elem x,vs,hr=>by
  simp only[repD] at hr ⊢;obtain⟨b,o,us,h1,h2,h3⟩:=hr
  exact⟨b,o,us,h1,WB h.cells x us h2,h3.mono h.cells⟩
 |.ref id off path,vs,hr=>by
  simp only[repD] at hr ⊢;obtain⟨b,h1,h2,h3⟩:=hr
  exact⟨b,(h.var id b h1 h2).1,(h.var id b h1 h2).2,h3⟩
 |.own id nn s xs,vs,hr=>by
  simp only[repD] at hr ⊢;obtain⟨h1,A,c,h2,h3,h4,h5,h6,h7,h8⟩:=hr;refine⟨h1,A,c,h2,h3,h4,h5,h6,λhne=> ?_,h.front _ _ _ _ _ h8⟩;obtain⟨b,o,us,e1,e2,e3⟩:=h7 hne
  exact⟨b,o,us,e1,repCs_mono h.cells xs us e2,e3.mono h.cells⟩
 |.view id off path s lo n,vs,hr=>by
  simp only[repD] at hr ⊢;obtain⟨b,c,a,h1,h2,h3⟩:=hr
  exact⟨b,c,a,(h.var id b h1 h2).1,(h.var id b h1 h2).2,h3⟩
 |.agg xs,vs,hr=>by
  simp only[repD] at hr ⊢
  exact repDs_leaf h xs vs hr
 |.arr n s xs,vs,hr=>by
  simp only[repD] at hr ⊢
  exact⟨hr.1,hr.2.1,repDs_leaf h xs vs hr.2.2⟩
 |.fn f cap,vs,hr=>by
  simp only[repD] at hr ⊢;obtain⟨fs,cs,h1,h0,h2⟩:=hr
  exact⟨fs,cs,h1,h0,repVs_leaf h cap _ h2⟩
 |.iface t x,vs,hr=>by
  simp only[repD] at hr ⊢;obtain⟨v,h1,h2,h3⟩:=hr;refine⟨v,h1,λha=> ?_,λha=>ZO h x _ (h3 ha)⟩;obtain⟨cs,e1,e2⟩:=h2 ha
  exact⟨cs,e1,ZO h x _ e2⟩
 |.tup xs,vs,hr=>by
  simp only[repD] at hr ⊢;obtain⟨cs,h1,h2⟩:=hr
  exact⟨cs,h1,repVs_leaf h xs _ h2⟩
 |.mp id,vs,hr=>by
  simp only[repD] at hr ⊢;obtain⟨b,h1,h2,h3⟩:=hr
  exact⟨b,(h.map id b h1 h2).1,(h.map id b h1 h2).2,h3⟩
 |.rv id v s lo n,vs,hr=>by
  simp only[repD] at hr ⊢;obtain⟨A,c,h1,h2,h3,h4,h5,h6⟩:=hr
  exact⟨A,c,h1,h2,h3,h4,h5,ZBY h h6⟩
 |.rref id v off path,vs,hr=>by
  simp only[repD] at hr ⊢;obtain⟨b,o,h1,h2⟩:=hr
  exact⟨b,o,h1,ZBZ h h2⟩
 |.junk,_,hr=>by simpa[repD] using hr
theorem repDs_leaf{σ σ':Sg}(h:Leaf σ σ'):∀(ds:List Dv)(vs:List yh),repDs σ ds vs→repDs σ' ds vs
 |[],_,hr=>by simpa[repDs] using hr
 |x::xs,vs,hr=>by
  simp only[repDs] at hr ⊢;obtain⟨us,us',h1,h2,h3⟩:=hr;exact⟨us,us',h1,ZO h x us h2,repDs_leaf h xs us' h3⟩
theorem repVs_leaf{σ σ':Sg}(h:Leaf σ σ'):∀(ds:List Dv)(vs:List yh),repVs σ ds vs→repVs σ' ds vs
 |[],_,hr=>by simpa[repVs] using hr
 |x::xs,vs,hr=>by
  simp only[repVs] at hr ⊢;obtain⟨v,vs',h1,⟨h2,h3⟩,h4⟩:=hr;refine⟨v,vs',h1,⟨λha=> ?_,λha=>ZO h x _ (h3 ha)⟩,repVs_leaf h xs vs' h4⟩;obtain⟨cs,e1,e2⟩:=h2 ha;exact⟨cs,e1,ZO h x _ e2⟩
end
theorem Wc{σ σ':Sg}(h:Leaf σ σ'){d:Dv}{v:yh}(hr:repDV σ d v):repDV σ' d v:=by
 obtain⟨h2,h3⟩:=hr;refine⟨λha=> ?_,λha=>ZO h d _ (h3 ha)⟩;obtain⟨cs,e1,e2⟩:=h2 ha;exact⟨cs,e1,ZO h d _ e2⟩
def Zar(σ:Sg):List (Pl×Pl)→List MapEntry→Prop
 |[],[]=>True
 |q::r,e::es=>repDV σ (.p q.1) e.key∧repDV σ (.p q.2) e.val∧Zar σ r es
 |_,_=>False
def Zdh(σ:Sg)(kvs:List (Pl×Pl))(es:List MapEntry):Prop:=∃l,l.Perm kvs∧(kvs.map (·.1)).Nodup∧Zar σ l es
def ZgK(es:Array MapEntry)(clock:Nat):Prop:=
 (∀(q:Nat)en,es[q]? =some en→en.born < clock)∧∀(q q':Nat)en en',es[q]? =some en→es[q']? =some en'→en.born=en'.born→q=q'
def entOk(σ:Sg)(a:Option Nat):Ent→Prop
 |.var d _=>∃b cs t,a=some b∧σ.w.heap[b]? =some (.cells cs t (0,0))∧repD σ d (cs.toList.take d.size)∧d.size≤cs.size
 |.log s e xs=>(a=none∧xs=[])∨
   ∃b cur cap,a=some b∧σ.w.heap[b]? =some (.cells cur e (0,0))∧cur.size=cap*s∧xs.length≤cap∧cap≤maxLen∧allSz s xs∧
    repCs σ.w σ.stab xs (cur.toList.take (xs.length*s))
 |.map _ kvs=>∃b es clock,a=some b∧σ.w.heap[b]? =some (.map es clock)∧Zdh σ kvs es.toList∧ZgK es clock
 |.row _ s _ e d=>∃N,rowN d s=some N∧((a=none∧N=0)∨
   ∃b cur cap,a=some b∧σ.w.heap[b]? =some (.cells cur e (0,0))∧cur.size=cap*s∧N≤cap∧cap≤maxLen∧repD σ d (cur.toList.take (N*s)))
 |.gone=>True
structure Ok(σ:Sg):Prop where
 len:σ.m.length=σ.H.length
 inj:∀(i j b:Nat),σ.m[i]? =some (some b)→σ.m[j]? =some (some b)→i=j
 lt:∀(i b:Nat),σ.m[i]? =some (some b)→b < σ.w.heap.size
 ent:∀(i:Nat)(e:Ent)(a:Option Nat),σ.H[i]? =some e→σ.m[i]? =some a→entOk σ a e
 new:∀(b:Nat),σ.w.heap.size≤b→σ.B b
 own:∀(i b:Nat),σ.m[i]? =some (some b)→σ.B b
structure To(σ σ':Sg):Prop where
 leaf:Leaf σ σ'
 F:σ'.F=σ.F
 B:σ'.B=σ.B
 os:σ'.w.os=σ.w.os
 tape:σ'.w.tape=σ.w.tape
 output:σ'.w.output=σ.w.output
 size:σ.w.heap.size≤σ'.w.heap.size
 block:∀(b:Nat),b < σ.w.heap.size→(∀(id:Nat),σ.m[id]? ≠some (some b))→σ'.w.heap[b]? =σ.w.heap[b]?
 same:∀(id b:Nat),σ'.m[id]? =some (some b)→σ.m[id]? =some (some b)∨σ.w.heap.size≤b
 len:σ.m.length≤σ'.m.length
theorem To.refl(σ:Sg):To σ σ:=⟨Leaf.refl σ,rfl,rfl,rfl,rfl,rfl,ym _,λ_ _ _=>rfl,λ_ _ h=>.inl h,ym _⟩
theorem To.trans{a b c:Sg}(h:To a b)(k:To b c):To a c where
 leaf:=h.leaf.trans k.leaf
 F:=k.F.trans h.F
 B:=k.B.trans h.B
 os:=k.os.trans h.os
 tape:=k.tape.trans h.tape
 output:=k.output.trans h.output
 size:=Nat.le_trans h.size k.size
 block x hx hn:=(k.block x (Nat.lt_of_lt_of_le hx h.size) (λid he=>by
  rcases h.same id x he with h1|h1
  ·exact hn id h1
  ·omega)).trans (h.block x hx hn)
 same id x hx:=by
  rcases k.same id x hx with h1|h1
  ·exact h.same id x h1
  ·exact .inr (Nat.le_trans h.size h1)
 len:=Nat.le_trans h.len k.len
def Con(P:yg)(f:yu)(args:List Dv)(H:List Ent)(r:Dv)(H':List Ent):Prop:=
 ∀(σ:Sg)(vs:List yh),Ok σ→σ.H=H→repVs σ args vs→
  Calls P f vs.toArray σ.w λe w'=>∃v σ',e=.returned v∧σ'.w=w'∧σ'.H=H'∧To σ σ'∧Ok σ'∧repDV σ' r v
structure RepT(σ:Sg)(ts:List Dv)(a:Act):Prop where
 size:a.tmps.size=ts.length
 at_:∀(i:Nat)(d:Dv),ts[i]? =some d→repDV σ d (a.tmps.getD i undef)
 defers:a.defers=[]
theorem RepT.to{σ σ':Sg}{ts:List Dv}{a:Act}(h:RepT σ ts a)(k:Leaf σ σ'):RepT σ' ts a:=
 ⟨h.size,λi d hd=>Wc k (h.at_ i d hd),h.defers⟩
inductive Ex where
 |normal
 |exit (id:Nat)
 |ret
 deriving DecidableEq,Inhabited
def Ex.to:Ex→Exit
 |.normal=>.normal
 |.exit id=>.exit id
 |.ret=>.ret
def YU(P:yg)(c:Code)(ts:List Dv)(H:List Ent)(ex:Ex)(ts':List Dv)(H':List Ent):Prop:=
 ∀(σ:Sg)(a:Act),Ok σ→σ.H=H→RepT σ ts a→
  c.wp P (λe a' w'=>e=ex.to∧∃σ',σ'.w=w'∧σ'.H=H'∧To σ σ'∧Ok σ'∧RepT σ' ts' a') a σ.w
inductive Hint where
 |b (t:Bool)
 |el (x:Pl)
 |bare
 |raw
 |call (r:Dv) (H':List Ent) (ids:List Nat)
 |sub (t:Nat) (d:Dv)
 |own
 |snap
 |kvs (l:List (Pl×Pl))
 |arr
 |frz
 |fresh (dst:Nat)
 |freshR (dst:Nat)
 |still (dst:Nat)
 |ghost (path:List Nat) (s:Nat) (e:yb)
 |loop (mask:List Nat) (ex:Ex) (ts':List Dv) (H':List Ent)
 |meth (g:yu)
 deriving Inhabited
def ZFb(P:yg)(t:yb)(name:String)(g:yu):Prop:=
 ∀(v:yh)(args:Array yh)(w:yy),(callMethod (.iface t v) name args).run P w=(callFunc g (#[v]++args)).run P w
def Wd(k:IntKind)(x:Int):Prop:=k.min≤x∧x≤k.max
def ZLj(P:yg)(t:yb):Nat:=
 match P.underlying t with
 |some (.slice e)=>P.cellsOf e
 |_=>0
def Y5(P:yg)(t:yb):Bool:=
 match P.underlying t with
 |some (.struct _)=>true
 |some (.array _ _)=>true
 |_=>false
def Zxj(P:yg)(t:yb):yh→Option Pl
 |.int k n=>some (.int k n)
 |.bool b=>some (.bool b)
 |.string s=>some (.str s)
 |.pointer none=>some .ptr0
 |.nilFunc=>some .fn0
 |.nilIface=>some .if0
 |.map none=>some .map0
 |.slice none 0 0=>some (.sl (some false) (ZLj P t) [])
 |_=>none
mutual
def ZFc(P:yg):Nat→yb→List yh→Option (Pl×List yh)
 |0,_,_=>none
 |fuel+1,t,vs=>
  match P.underlying t with
  |some (.struct fs)=>(plFields P fuel (fs.toList.map (·.type)) vs).map λr=>(.agg r.1,r.2)
  |some (.array n e)=>(plArr P fuel e n vs).map λr=>(.arr n (P.cellsOf e) r.1,r.2)
  |some _=>match vs with
   |v::r=>(Zxj P t v).map λx=>(x,r)
   |[]=>none
  |none=>none
def plFields(P:yg):Nat→List yb→List yh→Option (List Pl×List yh)
 |0,_,_=>none
 |_+1,[],vs=>some ([],vs)
 |fuel+1,t::ts,vs=>
  match ZFc P fuel t vs with
  |some (x,r)=>(plFields P fuel ts r).map λq=>(x::q.1,q.2)
  |none=>none
def plArr(P:yg):Nat→yb→Nat→List yh→Option (List Pl×List yh)
 |0,_,_,_=>none
 |_+1,_,0,vs=>some ([],vs)
 |fuel+1,e,n+1,vs=>
  match ZFc P fuel e vs with
  |some (x,r)=>if x.size=P.cellsOf e then(plArr P fuel e n r).map λq=>(x::q.1,q.2) else none
  |none=>none
end
def ZoI(P:yg)(t:yb):yh→Dv
 |.agg cs=>match ZFc P 1000 t cs.toList with
  |some (x,[])=>if x.isAgg then .p x else .junk
  |_=>.junk
 |.func (.func f) fst cap=>if fst.size=0∧cap.size=0∧f < big then .fn f [] else .junk
 |v=>match Zxj P t v with
  |some x=>.p x
  |none=>.junk
def Zp(P:yg)(ts:List Dv)(t:yb):yn→Dv
 |.tmp i=>ts.getD i .junk
 |.const v=>ZoI P t v
 |.global _=>.junk
 |.func f=>if f < big then .fn f [] else .junk
mutual
def Dv.solid:Dv→Bool
 |.tup _=>false
 |.junk=>false
 |.agg xs=>Dv.solids xs
 |.arr _ _ xs=>Dv.solids xs
 |_=>true
def Dv.solids:List Dv→Bool
 |[]=>true
 |x::r=>x.solid&&Dv.solids r
end
mutual
def Dv.rn(f:Nat→Option Nat):Dv→Option Dv
 |.p x=>some (.p x)
 |.elem x=>some (.elem x)
 |.ref id off path=>(f id).map λi=>.ref i off path
 |.own id nn s xs=>(f id).map λi=>.own i nn s xs
 |.view id off path s lo n=>(f id).map λi=>.view i off path s lo n
 |.agg xs=>(Dv.rns f xs).map .agg
 |.arr n s xs=>(Dv.rns f xs).map (.arr n s)
 |.fn g cap=>(Dv.rns f cap).map (.fn g)
 |.iface t x=>(Dv.rn f x).map (.iface t)
 |.tup xs=>(Dv.rns f xs).map .tup
 |.mp id=>(f id).map .mp
 |.rv id v s lo n=>(f id).map λi=>.rv i v s lo n
 |.rref id v off path=>(f id).map λi=>.rref i v off path
 |.junk=>some .junk
def Dv.rns(f:Nat→Option Nat):List Dv→Option (List Dv)
 |[]=>some []
 |x::r=>match Dv.rn f x,Dv.rns f r with
  |some y,some ys=>some (y::ys)
  |_,_=>none
end
def Ent.rn(f:Nat→Option Nat):Ent→Option Ent
 |.var d st=>(d.rn f).map λd'=>.var d' st
 |.log s e xs=>some (.log s e xs)
 |.map t kvs=>some (.map t kvs)
 |.row v s st e d=>(d.rn f).map λd'=>.row v s st e d'
 |.gone=>some .gone
def Ent.rns(f:Nat→Option Nat):List Ent→Option (List Ent)
 |[]=>some []
 |x::r=>match Ent.rn f x,Ent.rns f r with
  |some y,some ys=>some (y::ys)
  |_,_=>none
def Dv.plain:Dv→Option Pl
 |.p x=>some x
 |.own _ nn s xs=>some (.sl nn s xs)
 |_=>none
mutual
def Dv.flat:Dv→Option Pl
 |.p x=>some x
 |.own _ nn s xs=>some (.sl nn s xs)
 |.agg ds=>(Dv.flats ds).map .agg
 |_=>none
def Dv.flats:List Dv→Option (List Pl)
 |[]=>some []
 |d::r=>match d.flat,Dv.flats r with
  |some x,some xs=>some (x::xs)
  |_,_=>none
end
mutual
def Dv.owns(ids:List Nat):Dv→Bool
 |.own id _ _ _=>ids.contains id
 |.agg ds=>Dv.ownss ids ds
 |_=>false
def Dv.ownss(ids:List Nat):List Dv→Bool
 |[]=>false
 |d::r=>d.owns ids || Dv.ownss ids r
end
def Dv.melt(ds:List Dv):Dv:=
 match Dv.flats ds with
 |some xs=>.p (.agg xs)
 |none=>.agg ds
def Zdi:List Dv→Option (List Pl)
 |[]=>some []
 |d::r=>match d.plain,Zdi r with
  |some x,some xs=>some (x::xs)
  |_,_=>none
def ZzH(ds:List Dv):Dv:=
 match Zdi ds with
 |some xs=>.p (.agg xs)
 |none=>.agg ds
abbrev ZB0:=Option (List Prop×Dv×List Hint)
abbrev ZJj:=Option (List Prop×Dv×List Ent×List Hint)
def ZbA(k:IntKind)(x:Int):List Hint→ZB0
 |.bare::hs=>some ([Wd k x],.p (.int k x),hs)
 |.raw::hs=>some ([],.p (.int k (k.wrap x)),hs)
 |_=>none
def ZrN(op:BinOp)(a b:Nat):Option Nat:=
 match op with
 |.and=>some (a&&&b)
 |.or=>some (a|||b)
 |.xor=>some (a^^^b)
 |_=>none
def Yq(op:BinOp)(k:IntKind)(x y:Int)(hs:List Hint):ZB0:=
 match op with
 |.add=>ZbA k (x+y) hs
 |.sub=>ZbA k (x - y) hs
 |.mul=>ZbA k (x*y) hs
 |.quo=>match hs with
  |.bare::hs'=>some ([0≤x,0 < y,Wd k (x / y)],.p (.int k (x / y)),hs')
  |.raw::hs'=>some ([y≠0],.p (.int k (k.wrap (x.tdiv y))),hs')
  |_=>none
 |.rem=>match hs with
  |.bare::hs'=>some ([0≤x,0 < y],.p (.int k (x % y)),hs')
  |.raw::hs'=>some ([y≠0],.p (.int k (x.tmod y)),hs')
  |_=>none
 |.and|.or|.xor=>match hs with
  |.bare::hs'=>(ZrN op x.toNat y.toNat).map λ(r:Nat)=>([0≤x,Wd k x,0≤y,Wd k y,Wd k (r:Int)],.p (.int k (r:Int)),hs')
  |.raw::hs'=>some ([],.p (.int k (bits op k x y)),hs')
  |_=>none
 |.andNot=>match hs with
  |.raw::hs'=>some ([],.p (.int k (bits op k x y)),hs')
  |_=>none
 |.eql=>some ([],.p (.bool (x==y)),hs)
 |.neq=>some ([],.p (.bool (x !=y)),hs)
 |.lss=>some ([],.p (.bool (decide (x < y))),hs)
 |.leq=>some ([],.p (.bool (decide (x≤y))),hs)
 |.gtr=>some ([],.p (.bool (decide (x > y))),hs)
 |.geq=>some ([],.p (.bool (decide (x ≥ y))),hs)
 |_=>none
def Xw(op:BinOp)(k:IntKind)(x y:Int)(hs:List Hint):ZB0:=
 match op,hs with
 |.shl,.bare::hs'=>some ([0≤y,y.toNat < k.bits,Wd k (x*2 ^ y.toNat)],.p (.int k (x*2 ^ y.toNat)),hs')
 |.shl,.raw::hs'=>some ([0≤y],.p (.int k (k.wrap (x*2 ^ (min y.toNat k.bits)))),hs')
 |.shr,.bare::hs'=>some ([0≤y,y.toNat≤k.bits],.p (.int k (x / 2 ^ y.toNat)),hs')
 |.shr,.raw::hs'=>some ([0≤y],.p (.int k (x.fdiv (2 ^ (min y.toNat k.bits)))),hs')
 |_,_=>none
mutual
def Pl.flat:Pl→Bool
 |.int _ _=>true
 |.bool _=>true
 |.agg xs=>Pl.flats xs
 |.arr _ _ xs=>Pl.flats xs
 |_=>false
def Pl.flats:List Pl→Bool
 |[]=>true
 |x::r=>x.flat&&Pl.flats r
end
def ZfY(P:yg)(R:yb→Pl→Prop):List Field→Nat→List Pl→Prop
 |[],_,[]=>True
 |f::fs,o,y::ys=>f.name≠ "_" ∧f.offset=o∧P.cellsOf f.type=y.size∧(P.info? f.type).isSome=true∧(P.underlying f.type).isSome=true∧Y5 P f.type=y.isAgg∧y.size≠0∧R f.type y∧ZfY P R fs (o+y.size) ys
 |_,_,_=>False
def fitP(P:yg):Nat→yb→Pl→Prop
 |0,_,_=>False
 |n+1,t,x=>match P.underlying t,x with
  |some .bool,.bool _=>True
  |some (.int k),.int k' _=>k'=k
  |some (.array m e),.arr m' s xs=>m'=m∧P.cellsOf e=s∧s≠0∧(P.info? e).isSome=true∧(P.underlying e).isSome=true∧∀y,y∈xs→fitP P n e y∧y.size=s∧Y5 P e=y.isAgg
  |some (.struct fs),.agg xs=>P.stoodInHeld t=false∧ZfY P (fitP P n) fs.toList 0 xs
  |_,_=>False
def X6:List (Pl×Pl)→Pl→Option Pl→Prop
 |[],_,r=>r=none
 |q::l,k,r=>(k=q.1∧r=some q.2)∨(k≠q.1∧X6 l k r)
def VG:List (Pl×Pl)→Pl→Pl→List (Pl×Pl)→Prop
 |[],k,v,l=>l=[(k,v)]
 |q::r,k,v,l=>(k=q.1∧l=(k,v)::r)∨(k≠q.1∧∃l',l=q::l'∧VG r k v l')
def ZbB:List (Pl×Pl)→Pl→List (Pl×Pl)→Prop
 |[],_,l=>l=[]
 |q::r,k,l=>(k=q.1∧l=r)∨(k≠q.1∧∃l',l=q::l'∧ZbB r k l')
def Qi(P:yg)(kt:yb)(kvs:List (Pl×Pl)):Prop:=∀q,q∈kvs→fitP P 20 kt q.1
def Zka(P:yg)(t:yb):Bool:=match P.info? t with|some i=>i.zero.isSome|none=>false
def ZfZ(P:yg)(kt:yb):Bool:=
 match P.underlying kt with
 |some (.int _)=>true
 |some .bool=>true
 |some (.array _ _)=>true
 |some (.struct _)=>true
 |_=>false
def ZhB(P:yg)(t:yb)(x y:Dv)(hs:List Hint):Option (List Prop×Bool×List Hint):=
 match P.underlying t,x,y with
 |some .bool,.p (.bool a),.p (.bool b)=>some ([],a==b,hs)
 |some (.pointer _),.ref _ _ _,.p .ptr0=>some ([],false,hs)
 |some (.pointer _),.elem _,.p .ptr0=>some ([],false,hs)
 |some (.pointer _),.rref _ _ _ _,.p .ptr0=>some ([],false,hs)
 |some (.pointer _),.p .ptr0,.p .ptr0=>some ([],true,hs)
 |some (.slice _),.p (.sl (some b) _ _),.p (.sl (some false) _ [])=>some ([], !b,hs)
 |some (.slice _),.own _ (some b) _ _,.p (.sl (some false) _ [])=>some ([], !b,hs)
 |some (.slice _),.view _ _ _ _ _ _,.p (.sl (some false) _ [])=>some ([],false,hs)
 |some (.slice _),.p (.sl none _ xs),.p (.sl (some false) _ [])=>match hs with
  |.bare::hs'=>some ([xs≠[]],false,hs')
  |_=>none
 |some (.slice _),.own _ none _ xs,.p (.sl (some false) _ [])=>match hs with
  |.bare::hs'=>some ([xs≠[]],false,hs')
  |_=>none
 |some (.func _ _ _),.fn _ _,.p .fn0=>some ([],false,hs)
 |some (.func _ _ _),.p .fn0,.p .fn0=>some ([],true,hs)
 |some (.array _ _),.p (.arr n s xs),.p (.arr m r ys)=>match hs with
  |.b β::hs'=>if P.eqGuardType P.depth t=false then some ([fitP P 20 t (.arr n s xs),fitP P 20 t (.arr m r ys),(β=true↔Pl.arr n s xs=Pl.arr m r ys)],β,hs') else none
  |_=>none
 |some (.struct _),.p (.agg xs),.p (.agg ys)=>match hs with
  |.b β::hs'=>if P.eqGuardType P.depth t=false then some ([fitP P 20 t (.agg xs),fitP P 20 t (.agg ys),(β=true↔Pl.agg xs=Pl.agg ys)],β,hs') else none
  |_=>none
 |_,_,_=>none
def Zxk:BinOp→Bool
 |.shl=>true
 |.shr=>true
 |_=>false
def Zcf(P:yg)(op:BinOp)(t:yb)(x y:Dv)(hs:List Hint):ZB0:=
 match x,y with
 |.p (.int k a),.p (.int k' b)=>if Zxk op then Xw op k a b hs else if k=k' then Yq op k a b hs else none
 |.p (.str a),.p (.str b)=>match op with
  |.eql=>some ([],.p (.bool (a.data.toList==b.data.toList)),hs)
  |.neq=>some ([],.p (.bool (!(a.data.toList==b.data.toList))),hs)
  |_=>none
 |x,y=>match op with
  |.eql=>(ZhB P t x y hs).map λr=>(r.1,.p (.bool r.2.1),r.2.2)
  |.neq=>(ZhB P t x y hs).map λr=>(r.1,.p (.bool (!r.2.1)),r.2.2)
  |_=>none
def ZeG(P:yg)(fs:Array Field)(i:Nat)(before:Nat)(size:Nat)(isAgg:Bool):Bool:=
 match fs[i]? with
 |some f=>f.offset==before&&P.cellsOf f.type==size&&(P.info? f.type).isSome&&Y5 P f.type==isAgg&&(P.underlying f.type).isSome&&size !=0
 |none=>false
def VU(P:yg)(t:yb)(x:Dv)(i:Nat):Option Dv:=
 match P.underlying t,x with
 |some (.struct fs),.p (.agg xs)=>match xs[i]? with
  |some y=>if ZeG P fs i (Pl.sizes (xs.take i)) y.size y.isAgg then some (.p y) else none
  |none=>none
 |some (.struct fs),.agg xs=>match xs[i]? with
  |some y=>if ZeG P fs i (Dv.sizes (xs.take i)) y.size y.isAgg then some y else none
  |none=>none
 |_,_=>none
def ZbC(P:yg)(ts:List Dv):Option yn→Option (Option Int)
 |none=>some none
 |some x=>match Zp P ts 0 x with
  |.p (.int _ i)=>some (some i)
  |_=>none
def We{α:Type}(xs:List α):Option Int→Option Int→List α
 |none,none=>xs
 |none,some h=>xs.take h.toNat
 |some l,none=>xs.drop l.toNat
 |some l,some h=>(xs.take h.toNat).drop l.toNat
def Yt(len:Nat):Option Int→Option Int→List Prop
 |none,none=>[]
 |none,some h=>[0≤h,h≤(len:Int)]
 |some l,none=>[0≤l,l≤(len:Int)]
 |some l,some h=>[0≤l,l≤h,h≤(len:Int)]
def ZDL(ds:List Dv)(i:Nat)(d:Dv):Option (List Dv):=
 match ds[i]? with
 |some old=>if old.size=d.size then some (ds.set i d) else none
 |none=>none
def ZaD:List Dv→List (Nat×Dv)→Option (List Dv)
 |ds,[]=>some ds
 |ds,(i,d)::r=>(ZDL ds i d).bind λds'=>ZaD ds' r
def ZbD(l:List (Nat×Dv)):Bool:=l.all λq=>q.2.solid
def VD(P:yg)(ts:List Dv)(f:Nat→yb)(parts:List (Nat×yn)):List (Nat×Dv):=
 parts.map λq=>(q.1,Zp P ts (f q.1) q.2)
def ZiD(P:yg)(t:yb)(i:Nat):yb:=
 match P.underlying t with
 |some (.struct fs)=>((fs[i]?).map (·.type)).getD 0
 |some (.array _ e)=>e
 |some (.slice e)=>e
 |_=>0
def Yr(P:yg)(t:yb):Dv:=
 match P.info? t with
 |some i=>match i.zero with
  |some v=>ZoI P t v
  |none=>.junk
 |none=>.junk
def Dv.arg:Dv→Dv
 |.own _ nn s xs=>.p (.sl nn s xs)
 |.agg ds=>Dv.melt ds
 |d=>d
def Dv.argI(ids:List Nat):Dv→Dv
 |.own id nn s xs=>if ids.contains id then .own id nn s xs else .p (.sl nn s xs)
 |.agg ds=>if Dv.ownss ids ds then .agg ds else Dv.melt ds
 |d=>d
def ZM(P:yg)(ids:List Nat)(ts:List Dv)(c:Call)(g:yu)(cap:List Dv):List Dv:=
 if g < big then((c.args.toList.zip c.argTypes.toList).map λq=>(Zp P ts q.2 q.1).argI ids)++cap.map (Dv.argI ids)
 else cap.map (Dv.argI ids)++((c.args.toList.zip c.argTypes.toList).map λq=>(Zp P ts q.2 q.1).argI ids)
def ZlJ(P:yg)(g:yu):Bool:=
 decide (g < big)&&match P.funcs[g]? with
 |some fn=>fn.name== "internal/bytealg.Compare" &&fn.body.isNone&&(Extern.findNext fn).isNone
 |none=>false
def Zdj(b:ByteArray):List Pl:=b.data.toList.map λx=>.int .u8 (x.toNat:Int)
def ZeH(P:yg)(s:Nat)(t:yb)(d:Dv):Option (List Pl):=
 match P.underlying t,d with
 |some (.slice e),.p (.sl _ s' xs)=>if s'=s∨xs.isEmpty then some xs else none
 |some (.slice e),.own _ _ s' xs=>if s'=s then some xs else none
 |some .string,.p (.str z)=>if s=1 then some (z.data.toList.map λb=>.int .u8 (b.toNat:Int)) else none
 |_,_=>none
def Y8(P:yg)(ts:List Dv)(e:yb)(s:Nat)(len:Nat)(parts:List (Nat×yn)):Option (List Pl):=
 if parts.map (·.1)==yq len then
  match Dv.flats (parts.map λq=>Zp P ts e q.2) with
  |some xs=>if xs.all (λx=>x.size==s) then some xs else none
  |none=>none
 else none
def Zdb(P:yg)(ts:List Dv)(e:yb)(s:Nat)(len:Nat)(parts:List (Nat×yn)):Option (List Dv):=
 if parts.map (·.1)==yq len then
  if(parts.map λq=>Zp P ts e q.2).all λd=>d.solid&&d.size==s then some (parts.map λq=>Zp P ts e q.2) else none
 else none
def Zo:Nat:=140737488355328
def zOk(i:TypeInfo):Bool:=
 match i.zero with
 |some z=>z.cells.size==i.size
 |none=>false
def VE(P:yg)(g:yu):Bool:=
 match P.funcs[g]? with
 |some fn=>fn.body.isSome&& !(fn.name== "runtime.NumGoroutine")
 |none=>false
def evN(P:yg)(o:Oper)(ts:List Dv)(hs:List Hint):ZB0:=
 match o.op with
 |.move x=>match hs with
  |.raw::hs'=>some ([],Zp P ts o.type x,hs')
  |_=>none
 |.assign x=>match hs with
  |.raw::hs'=>some ([],Zp P ts o.type x,hs')
  |_=>none
 |.pick c a b=>match Zp P ts 0 c,hs with
  |.p (.bool t),.b β::hs'=>some ([t=β],if β then Zp P ts o.type a else Zp P ts o.type b,hs')
  |_,_=>none
 |.nilCheck x=>match Zp P ts 0 x with
  |.ref i f p=>some ([],.ref i f p,hs)
  |.rref i v f p=>some ([],.rref i v f p,hs)
  |.elem y=>some ([],.elem y,hs)
  |.fn f c=>some ([],.fn f c,hs)
  |_=>none
 |.binOp op t x y yt=>Zcf P op t (Zp P ts t x) (Zp P ts yt y) hs
 |.unOp .not _ x=>match Zp P ts 0 x with
  |.p (.bool t)=>some ([],.p (.bool (!t)),hs)
  |_=>none
 |.unOp .neg _ x=>match Zp P ts 0 x with
  |.p (.int k n)=>ZbA k (0 - n) hs
  |_=>none
 |.unOp .xor _ x=>match Zp P ts 0 x with
  |.p (.int k n)=>if k.signed then none else some ([],.p (.int k (bits .xor k k.max n)),hs)
  |_=>none
 |.convert src dst x=>match P.underlying src,P.underlying dst,Zp P ts src x with
  |some _,some (.int k),.p (.int _ n)=>ZbA k n hs
  |some (.slice e),some .string,.p (.sl _ s xs)=>match hs,P.underlying e with
   |.el (.str b)::hs',some (.int .u8)=>if s=1 then some ([xs=b.data.toList.map λx=>.int .u8 (x.toNat:Int)],.p (.str b),hs') else none
   |_,_=>none
  |some (.slice e),some .string,.own _ _ s xs=>match hs,P.underlying e with
   |.el (.str b)::hs',some (.int .u8)=>if s=1 then some ([xs=b.data.toList.map λx=>.int .u8 (x.toNat:Int)],.p (.str b),hs') else none
   |_,_=>none
  |some .string,some (.slice e),.p (.str b)=>match P.underlying e with
   |some (.int .u8)=>some ([b.size≤maxLen],.p (.sl (some true) 1 (b.data.toList.map λx=>.int .u8 (x.toNat:Int))),hs)
   |_=>none
  |_,_,_=>none
 |.sliceToArrayPointer t x=>match P.underlying t,Zp P ts 0 x with
  |some (.array n e),.p (.sl _ s xs)=>if n !=0 then some ([n≤xs.length],.elem (.arr n s (xs.take n)),hs) else none
  |some (.array n e),.own _ _ s xs=>if n !=0 then some ([n≤xs.length],.elem (.arr n s (xs.take n)),hs) else none
  |_,_=>none
 |.makeFunc (.func f) first captured=>if first.isEmpty&&decide (f < big) then some ([],.fn f (captured.toList.map (Zp P ts 0)),hs) else if captured.isEmpty then some ([],.fn (f+big) (first.toList.map (Zp P ts 0)),hs) else none
 |.makeInterface t x=>match P.underlying t with
  |some (.interface _)=>none
  |some _=>some ([],.iface t (Zp P ts t x),hs)
  |none=>none
 |.field t x i=>(VU P t (Zp P ts t x) i).map λd=>([],d,hs)
 |.fieldAddr t x i=>match P.underlying t,Zp P ts 0 x with
  |some (.struct fs),.ref id off path=>match fs[i]? with
   |some f=>if P.cellsOf f.type !=0&&(P.info? f.type).isSome then some ([],.ref id (off+f.offset) (path++[i]),hs) else none
   |none=>none
  |some (.struct fs),.rref id v off path=>match fs[i]? with
   |some f=>if P.cellsOf f.type !=0&&(P.info? f.type).isSome then some ([],.rref id v (off+f.offset) (path++[i]),hs) else none
   |none=>none
  |some (.struct _),.elem y=>match VU P t (.p y) i with
   |some (.p z)=>some ([],.elem z,hs)
   |_=>none
  |_,_=>none
 |.indexAddr t x ix=>match P.underlying t,Zp P ts t x,Zp P ts 0 ix with
  |some (.slice e),.p (.sl _ s xs),.p (.int _ i)=>match hs with
   |.el y::hs'=>if P.cellsOf e=s&&(P.info? e).isSome then some ([0≤i,xs[i.toNat]? =some y],.elem y,hs') else none
   |_=>none
  |some (.slice e),.own _ _ s xs,.p (.int _ i)=>match hs with
   |.el y::hs'=>if P.cellsOf e=s&&(P.info? e).isSome then some ([0≤i,xs[i.toNat]? =some y],.elem y,hs') else none
   |_=>none
  |some (.slice e),.view id off path s lo n,.p (.int _ i)=>
   if P.cellsOf e=s&&(P.info? e).isSome then some ([0≤i,i < (n:Int)],.ref id (off+(lo+i.toNat)*s) (path++[lo+i.toNat]),hs) else none
  |some (.slice e),.rv id v s lo n,.p (.int _ i)=>
   if P.cellsOf e=s&&(P.info? e).isSome then some ([0≤i,i < (n:Int)],.rref id v ((lo+i.toNat)*s) [lo+i.toNat],hs) else none
  |some (.array n e),.rref id v off path,.p (.int _ i)=>
   if(P.info? e).isSome then some ([0≤i,i < (n:Int)],.rref id v (off+i.toNat*P.cellsOf e) (path++[i.toNat]),hs) else none
  |some (.array n e),.ref id off path,.p (.int _ i)=>
   if(P.info? e).isSome then some ([0≤i,i < (n:Int)],.ref id (off+i.toNat*P.cellsOf e) (path++[i.toNat]),hs) else none
  |some (.array n e),.elem (.arr n' s xs),.p (.int _ i)=>match hs with
   |.el y::hs'=>if n=n'&&P.cellsOf e=s&&(P.info? e).isSome then some ([0≤i,xs[i.toNat]? =some y],.elem y,hs') else none
   |_=>none
  |_,_,_=>none
 |.index t x ix=>match P.underlying t,Zp P ts t x,Zp P ts 0 ix with
  |some (.array n e),.p (.arr n' s xs),.p (.int _ i)=>match hs with
   |.el y::hs'=>if n=n'&&P.cellsOf e=s&&Y5 P e==y.isAgg&&(P.underlying e).isSome&&(P.info? e).isSome&&s !=0 then some ([0≤i,xs[i.toNat]? =some y],.p y,hs') else none
   |_=>none
  |some .string,.p (.str s),.p (.int _ i)=>match hs with
   |.el (.int .u8 b)::hs'=>some ([0≤i,(s.data.toList[i.toNat]?).map (λx:UInt8=>(x.toNat:Int))=some b],.p (.int .u8 b),hs')
   |_=>none
  |_,_,_=>none
 |.slice t x lo hi none=>match P.underlying t,Zp P ts t x,ZbC P ts lo,ZbC P ts hi with
  |some (.slice e),.p (.sl nn s xs),some l,some h=>
   if P.cellsOf e=s&&(P.info? e).isSome then some (Yt xs.length l h,.p (.sl nn s (We xs l h)),hs) else none
  |some (.slice e),.own _ nn s xs,some l,some h=>
   if P.cellsOf e=s&&(P.info? e).isSome then some (Yt xs.length l h,.p (.sl nn s (We xs l h)),hs) else none
  |some (.slice e),.view id off path s lo n,some l,some h=>
   if P.cellsOf e=s&&(P.info? e).isSome then some (Yt n l h,.view id off path s (lo+(l.getD 0).toNat) ((h.getD n).toNat - (l.getD 0).toNat),hs) else none
  |some (.slice e),.rv id v s lo n,some l,some h=>match hs with
   |.bare::hs'=>if P.cellsOf e=s&&(P.info? e).isSome then some (Yt n l h,.rv id v s (lo+(l.getD 0).toNat) ((h.getD n).toNat - (l.getD 0).toNat),hs') else none
   |_=>none
  |some (.array n e),.elem (.arr n' s xs),some l,some h=>
   if n=n'&&P.cellsOf e=s&&(P.info? e).isSome&&n≤maxLen then some (Yt n l h,.p (.sl (some true) s (We xs l h)),hs) else none
  |some (.array n e),.ref id off path,some l,some h=>match hs with
   |.raw::hs'=>if(P.info? e).isSome&&n≤maxLen then some (Yt n l h,.view id off path (P.cellsOf e) (l.getD 0).toNat ((h.getD n).toNat - (l.getD 0).toNat),hs') else none
   |_=>none
  |_,_,_,_=>none
 |.slice t x lo hi (some mx)=>match P.underlying t,Zp P ts t x,ZbC P ts lo,ZbC P ts hi,ZbC P ts (some mx) with
  |some (.slice e),.rv _ _ _ _ n,some (some l),some (some h),some (some m)=>if(P.info? e).isSome then some ([0≤l,l≤h,h≤m,m≤(n:Int)],.junk,hs) else none
  |_,_,_,_,_=>none
 |.extract x i=>match Zp P ts 0 x with
  |.tup ds=>(ds[i]?).map λd=>([],d,hs)
  |_=>none
 |.load t a=>match Zp P ts 0 a with
  |.elem y=>if P.cellsOf t=y.size&&Y5 P t==y.isAgg&&(P.underlying t).isSome&&(P.info? t).isSome then some ([],.p y,hs) else none
  |_=>none
 |.build t parts=>match P.underlying t,Yr P t with
  |some (.struct fs),.p (.agg zs)=>
   if ZbD (VD P ts (ZiD P t) parts.toList)&&fs.size==zs.length&&(yq zs.length).all λi=>ZeG P fs i (Pl.sizes (zs.take i)) ((zs.getD i default).size) ((zs.getD i default).isAgg) then
    (ZaD (zs.map .p) (VD P ts (ZiD P t) parts.toList)).map λds=>([],ZzH ds,hs)
   else none
  |some (.array _ e),.p (.arr n s zs)=>
   if ZbD (VD P ts (ZiD P t) parts.toList)&&P.cellsOf e=s&&(P.info? e).isSome then
    (ZaD (zs.map .p) (VD P ts (ZiD P t) parts.toList)).bind λds=>match Zdi ds with
      |some xs=>some ([],.p (.arr n s xs),hs)
      |none=>some ([],.arr n s ds,hs)
   else none
  |_,_=>none
 |.call c=>match c.callee with
  |.builtin .len=>match c.args.toList,c.argTypes.toList with
   |[x],[t]=>match P.underlying t,Zp P ts t x with
    |some (.slice _),.p (.sl _ _ xs)=>some ([],.p (.int .i64 (xs.length:Int)),hs)
    |some (.slice _),.own _ _ _ xs=>some ([],.p (.int .i64 (xs.length:Int)),hs)
    |some (.slice _),.view _ _ _ _ _ n=>some ([],.p (.int .i64 (n:Int)),hs)
    |some (.slice _),.rv _ _ _ _ n=>some ([],.p (.int .i64 (n:Int)),hs)
    |some (.array n _),_=>some ([],.p (.int .i64 (n:Int)),hs)
    |some .string,.p (.str s)=>some ([],.p (.int .i64 (s.size:Int)),hs)
    |_,_=>none
   |_,_=>none
  |.builtin .max=>match c.args.toList,c.argTypes.toList with
   |[x,y],[t,u]=>match Zp P ts t x,Zp P ts u y with
    |.p (.int .i64 m),.p (.int .i64 n)=>some ([],.p (.int .i64 (if n > m then n else m)),hs)
    |_,_=>none
   |_,_=>none
  |.builtin .append=>match c.args.toList,c.argTypes.toList,hs with
   |[x,y],[t,u],.snap::hs'=>match P.underlying t,Zp P ts t x with
    |some (.slice e),.p (.sl (some false) _ [])=>match P.info? e,ZeH P (P.cellsOf e) u (Zp P ts u y) with
     |some i,some ys=>if zOk i&&i.size !=0 then some ([ys.length*i.bytes≤Zo,ys.length≤maxLen],.p (.sl none (P.cellsOf e) ys),hs') else none
     |_,_=>none
    |_,_=>none
   |_,_,_=>none
  |.value f=>match Zp P ts 0 f,hs with
   |.fn g cap,.call r [] []::hs'=>
    if VE P (ZaC g)&&c.args.size==c.argTypes.size then match Dv.rns (λ_=>none) (ZM P [] ts c g cap),r.rn (λ_=>none) with
     |some args',some _=>some ([Con P (ZaC g) args' [] r []],r,hs')
     |_,_=>none
    else none
   |.fn g [],.el (.str x)::.el (.str y)::hs'=>
    if ZlJ P g&&c.args.size==c.argTypes.size then match ZM P [] ts c g [] with
     |[.p (.sl _ s xs),.p (.sl _ s' ys)]=>if s=1∧s'=1 then some ([xs=Zdj x,ys=Zdj y],.p (.int .i64 (Go.Lib.compareBytes x.data.toList y.data.toList)),hs') else none
     |_=>none
    else none
   |_,_=>none
  |_=>none
 |.buildSlice t len parts=>match hs with
  |.snap::hs'=>match P.underlying t with
   |some (.slice e)=>match P.info? e,Y8 P ts e (P.cellsOf e) len parts.toList with
    |some i,some xs=>if zOk i&&i.size !=0&&len*i.size≤16777216 then some ([],.p (.sl (some true) i.size (xs.map Pl.soft)),hs') else none
    |_,_=>none
   |_=>none
  |.bare::hs'=>match P.underlying t with
   |some (.slice e)=>match P.info? e,Y8 P ts e (P.cellsOf e) len parts.toList with
    |some i,some xs=>if zOk i&&i.size !=0&&len*i.size≤16777216 then some ([],.p (.sl (some true) i.size xs),hs') else none
    |_,_=>none
   |_=>none
  |_=>none
 |_=>none
def Z3:Dv→List Nat→List Hint→Option (List Prop×Nat×Dv×List Hint)
 |d,[],hs=>some ([],0,d,hs)
 |.p (.agg xs),i::r,hs=>match xs[i]? with
  |some x=>(Z3 (.p x) r hs).map λq=>(q.1,Pl.sizes (xs.take i)+q.2.1,q.2.2)
  |none=>none
 |.p (.arr _ s xs),i::r,hs=>match hs with
  |.el y::hs'=>(Z3 (.p y) r hs').map λq=>((xs[i]? =some y)::q.1,i*s+q.2.1,q.2.2)
  |_=>none
 |.agg xs,i::r,hs=>match xs[i]? with
  |some x=>(Z3 x r hs).map λq=>(q.1,Dv.sizes (xs.take i)+q.2.1,q.2.2)
  |none=>none
 |.arr _ s xs,i::r,hs=>match xs[i]? with
  |some x=>(Z3 x r hs).map λq=>(q.1,i*s+q.2.1,q.2.2)
  |none=>none
 |_,_,_=>none
def Xi(new:Dv):Dv→List Nat→List Hint→Option Dv
 |_,[],_=>some new
 |.p (.agg xs),i::r,hs=>match xs[i]? with
  |some x=>match Xi new (.p x) r hs with
   |some (.p y)=>some (.p (.agg (xs.set i y)))
   |some y=>some (.agg ((xs.map .p).set i y))
   |none=>none
  |none=>none
 |.p (.arr n s xs),i::r,hs=>match hs with
  |.el y::hs'=>match Xi new (.p y) r hs' with
   |some (.p z)=>some (.p (.arr n s (xs.set i z.soft)))
   |some z=>some (.arr n s ((xs.map .p).set i z))
   |none=>none
  |_=>none
 |.agg xs,i::r,hs=>match xs[i]? with
  |some x=>(Xi new x r hs).map λy=>.agg (xs.set i y)
  |none=>none
 |.arr n s xs,i::r,hs=>match xs[i]? with
  |some x=>(Xi new x r hs).map λy=>.arr n s (xs.set i y)
  |none=>none
 |_,_,_=>none
def okT(P:yg)(t:yb)(d:Dv):Bool:=
 P.cellsOf t==d.size&&Y5 P t==d.isAgg&&(P.underlying t).isSome&&(P.info? t).isSome
def ZoJ(σ:Sg):Sg:={ F:=λb _=>b < σ.w.heap.size,B:=λb=>σ.w.heap.size≤b,m:=[],H:=[],w:=σ.w}
def rdE:Option Ent→Option Ent
 |some (.var d _)=>some (.var d true)
 |some (.row v s _ e d)=>some (.row v s true e d)
 |x=>x
mutual
def Dv.rvOf:Dv→Option Nat
 |.rv id _ _ _ _=>some id
 |.view id _ _ _ _ _=>some id
 |.agg xs=>Dv.rvsOf xs
 |_=>none
def Dv.rvsOf:List Dv→Option Nat
 |[]=>none
 |x::r=>match x.rvOf with
  |some i=>some i
  |none=>Dv.rvsOf r
end
def Lent(id:Nat)(E:Option Ent)(ds:List Dv)(ps:List Pl):Prop:=∀(σ:Sg)(vs:List yh),Ok σ→rdE (σ.H[id]?)=E→repVs σ ds vs→repVs (ZoJ σ) (ps.map Dv.p) vs
def evR(P:yg)(o:Oper)(ts:List Dv)(H:List Ent)(hs:List Hint):ZB0:=
 match o.op with
 |.load t a=>match Zp P ts 0 a with
  |.ref id off path=>match H[id]? with
   |some (.var d _)=>match Z3 d path hs with
    |some (C,off',sub,hs')=>if okT P t sub then some (C++[off'=off],sub,hs') else none
    |none=>none
   |_=>none
  |.rref id v off path=>match H[id]? with
   |some (.row v' _ _ _ d)=>match Z3 d path hs with
    |some (C,off',sub,hs')=>if okT P t sub&&v'==v then some (C++[off'=off],sub,hs') else none
    |none=>none
   |_=>none
  |_=>none
 |.slice t x lo hi none=>match P.underlying t,Zp P ts t x,ZbC P ts lo,ZbC P ts hi,hs with
  |some (.slice e),.rv id v s lo' n,some l,some (some h),.raw::hs'=>match H[id]? with
   |some (.row v' s' _ _ d)=>match rowN d s' with
    |some N=>if P.cellsOf e=s&&(P.info? e).isSome&&v'==v&&s'==s&&s' !=0 then some ([0≤l.getD 0,l.getD 0≤h,lo'+h.toNat≤N],.rv id v s (lo'+(l.getD 0).toNat) (h.toNat - (l.getD 0).toNat),hs') else none
    |none=>none
   |_=>none
  |some (.array n e),.ref id off path,some l,some h,.frz::hs'=>match H[id]? with
   |some (.var d false)=>match Z3 d path hs' with
    |some (C,off',.p (.arr n' s xs),hs'')=>
     if n=n'&&P.cellsOf e=s&&(P.info? e).isSome&&n≤maxLen then some (C++[off'=off]++Yt n l h,.p (.sl (some true) s (We xs l h)),hs'') else none
    |_=>none
   |_=>none
  |_,_,_,_,_=>none
 |.lookup t x ix ok=>match P.underlying t,Zp P ts t x with
  |some (.map kt et),.mp id=>match Zp P ts kt ix,H[id]?,hs with
   |.p k,some (.map _ kvs),.el v::hs'=>if ZfZ P kt then some ([fitP P 20 kt k,Qi P kt kvs,X6 kvs k (some v)],if ok then .tup [.p v,.p (.bool true)] else .p v,hs') else none
   |.p k,some (.map _ kvs),.raw::hs'=>if ZfZ P kt&&Zka P et then
     some ([fitP P 20 kt k,Qi P kt kvs,X6 kvs k none],if ok then .tup [Yr P et,.p (.bool false)] else Yr P et,hs') else none
   |_,_,_=>none
  |_,_=>none
 |.call c=>match c.callee with
  |.builtin .len=>match c.args.toList,c.argTypes.toList with
   |[x],[t]=>match P.underlying t,Zp P ts t x with
    |some (.map _ _),.mp id=>match H[id]? with
     |some (.map _ kvs)=>some ([],.p (.int .i64 (kvs.length:Int)),hs)
     |_=>none
    |_,_=>none
   |_,_=>none
  |.value f=>match Zp P ts 0 f,hs with
   |.fn g cap,.el (.agg ps)::.call (.p r) [] []::hs'=>match Dv.rvsOf (ZM P [] ts c g cap) with
    |some id=>if VE P (ZaC g)&&c.args.size==c.argTypes.size&&r.flat then some ([Lent id (rdE (H[id]?)) (ZM P [] ts c g cap) ps,Con P (ZaC g) (ps.map Dv.p) [] (.p r) []],.p r,hs') else none
    |none=>none
   |_,_=>none
  |_=>none
 |_=>none
def toIds(ids:List Nat)(id:Nat):Option Nat:=ids.idxOf? id
def fromIds(ids:List Nat)(n:Nat)(j:Nat):Option Nat:=if j < ids.length then ids[j]? else some (n+(j - ids.length))
def subEnts(H:List Ent)(all:List Nat):List Nat→Option (List Ent)
 |[]=>some []
 |id::r=>match (H[id]?).bind (Ent.rn (toIds all)),subEnts H all r with
  |some e,some es=>some (e::es)
  |_,_=>none
def putBack{α:Type}:List α→List Nat→List α→List α
 |H,[],Hb=>H++Hb
 |H,id::r,e::Hb=>putBack (H.set id e) r Hb
 |H,_::_,[]=>H
def once:List Nat→Bool
 |[]=>true
 |x::r=> !r.contains x&&once r
def Dv.meltP(d:Dv):Dv:=
 match d.flat with
 |some x=>.p x
 |none=>d
def ZbW(path:List Nat)(d:Dv)(new:Dv):Option Dv:=
 match d with
 |.p _=>some new.meltP
 |_=>match path with
  |[]=>some new.meltP
  |_=>some new
def ZoK(xs ys:List Pl)(lo:Nat):List Pl:=xs.take lo++(ys++xs.drop (lo+ys.length))
def ZoL(P:yg)(s:Nat)(t:yb)(H:List Ent)(hs:List Hint)(d:Dv):Option (List Prop×List Pl×List Hint):=
 match d with
 |.view id off path s' lo n=>match P.underlying t,H[id]? with
  |some (.slice _),some (.var dd _)=>match Z3 dd path hs with
   |some (C,off',.p (.arr N s'' zs),hs')=>if s'=s&&s''=s then some (C++[off'=off,lo+n≤N],(zs.drop lo).take n,hs') else none
   |_=>none
  |_,_=>none
 |.rv id v s' lo n=>match P.underlying t,H[id]? with
  |some (.slice _),some (.row v' s'' _ _ (.p (.arr N s3 zs)))=>if s'=s&&s''=s&&s3=s&&v'==v then some ([lo+n≤N],(zs.drop lo).take n,hs) else none
  |_,_=>none
 |d=>(ZeH P s t d).map λys=>([],ys,hs)
def Zdk(d:Dv)(H:List Ent)(hs:List Hint):ZJj:=
 match d with
 |.view id off path s lo n=>match H[id]? with
  |some (.var dd _)=>match Z3 dd path hs with
   |some (C,off',.p (.arr n' s' xs),hs')=>if s'=s then some (C++[off'=off,lo+n≤n'],.p (.sl (some true) s ((xs.drop lo).take n)),H.set id (.var dd false),hs') else none
   |_=>none
  |_=>none
 |.rv id v s lo n=>match H[id]? with
  |some (.row v' s' _ e (.p (.arr N s'' xs)))=>if s'=s&&s''=s&&v'==v then some ([lo+n≤N],.p (.sl none s ((xs.drop lo).take n)),H.set id (.row v s false e (.p (.arr N s xs))),hs) else none
  |_=>none
 |_=>none
def Yy:Dv→List Nat→Nat→Dv→Option Dv
 |.p (.sl (some false) s' []),[],s,new=>if s'=s then some new else none
 |.p (.agg xs),i::r,s,new=>match xs[i]? with
  |some x=>(Yy (.p x) r s new).map λy=>.agg ((xs.map Dv.p).set i y)
  |none=>none
 |.agg xs,i::r,s,new=>match xs[i]? with
  |some x=>(Yy x r s new).map λy=>.agg (xs.set i y)
  |none=>none
 |_,_,_,_=>none
def Ye(d:Dv)(n:Nat):List Hint→Dv×List Ent×List Hint
 |.ghost path s e::hs=>match Yy d path s (.own n none s []) with
  |some d'=>((Ye d' (n+1) hs).1,.log s e []::(Ye d' (n+1) hs).2.1,(Ye d' (n+1) hs).2.2)
  |none=>(d,[],.ghost path s e::hs)
 |hs=>(d,[],hs)
def ZB1(d:Dv):Dv:=
 match d.plain with
 |some y=>.p y
 |none=>d
def evE(P:yg)(o:Oper)(ts:List Dv)(H:List Ent)(hs:List Hint):ZJj:=
 match o.op with
 |.assign x=>match hs with
  |.fresh t'::hs'=>if o.dst=some t' then match P.underlying o.type,Zp P ts o.type x with
    |some (.slice e),.p (.sl (some false) _ [])=>match P.info? e with
     |some i=>if zOk i&&i.size !=0 then some ([],.own H.length none i.size [],H++[.log i.size e []],hs') else none
     |none=>none
    |_,_=>none
   else none
  |.freshR t'::hs'=>if o.dst=some t' then match P.underlying o.type,Zp P ts o.type x with
    |some (.slice e),.p (.sl (some false) _ [])=>match P.info? e with
     |some i=>if zOk i&&i.size !=0 then some ([],.rv H.length 0 i.size 0 0,H++[.row 0 i.size true e (.p (.arr 0 i.size []))],hs') else none
     |none=>none
    |_,_=>none
   else none
  |.still t'::hs'=>if o.dst=some t' then Zdk (Zp P ts o.type x) H hs' else none
  |_=>none
 |.move x=>match hs with
  |.still t'::hs'=>if o.dst=some t' then Zdk (Zp P ts o.type x) H hs' else none
  |_=>none
 |.makeSlice t l c=>match P.underlying t,Zp P ts 0 l,Zp P ts 0 c with
  |some (.slice e),.p (.int .i64 n),.p (.int .i64 n')=>match P.info? e,hs with
   |some i,.own::hs'=>if zOk i&&i.size !=0 then some ([n=0,0≤n',n'.toNat*i.bytes≤Zo,n'.toNat≤maxLen],.own H.length (some true) i.size [],H++[.log i.size e []],hs') else none
   |some i,.arr::hs'=>if zOk i&&i.size !=0 then some ([n=0,0≤n',n'.toNat*i.bytes≤Zo,n'.toNat≤maxLen],.rv H.length 0 i.size 0 0,H++[.row 0 i.size true e (.p (.arr 0 i.size []))],hs') else none
   |some i,.raw::hs'=>match Yr P e with
    |.p z=>if zOk i&&i.size=1&&z.size=1&& !z.isAgg then some ([n'=n,0≤n,n.toNat*i.bytes≤Zo,n.toNat≤maxLen],.view H.length 0 [] 1 0 n.toNat,H++[.var (.p (.arr n.toNat 1 (yab n.toNat z))) true],hs') else none
    |_=>none
   |some i,.frz::hs'=>match Yr P e with
    |.p z=>if zOk i&&i.size=1&&z.size=1&& !z.isAgg then some ([n'=n,0≤n,n.toNat*i.bytes≤Zo,n.toNat≤maxLen],.rv H.length 0 1 0 n.toNat,H++[.row 0 1 true e (.p (.arr n.toNat 1 (yab n.toNat z)))],hs') else none
    |_=>none
   |_,_=>none
  |_,_,_=>none
 |.makeMap t none=>some ([],.mp H.length,H++[.map t []],hs)
 |.mapUpdate t m k x=>match P.underlying t,Zp P ts t m with
  |some (.map kt et),.mp id=>match Zp P ts kt k,(Zp P ts et x).flat,H[id]?,hs with
   |.p k,some v,some (.map t' kvs),.kvs l::hs'=>if ZfZ P kt then some ([fitP P 20 kt k,Qi P kt kvs,VG kvs k v.soft l],.junk,H.set id (.map t' l),hs') else none
   |_,_,_,_=>none
  |_,_=>none
 |.insert t m k x=>match P.underlying t,Zp P ts t m with
  |some (.map kt et),.mp id=>match Zp P ts kt k,(Zp P ts et x).flat,H[id]?,hs with
   |.p k,some v,some (.map t' kvs),.kvs l::hs'=>if ZfZ P kt then some ([fitP P 20 kt k,Qi P kt kvs,VG kvs k v.soft l],.junk,H.set id (.map t' l),hs') else none
   |_,_,_,_=>none
  |_,_=>none
 |.alloc t=>match P.info? t with
  |some i=>match (Ye (Yr P t) (H.length+1) hs).2.2 with
   |.raw::hs'=>if zOk i&&okT P t (Yr P t)&&(Yr P t).solid then some ([],.ref H.length 0 [],H++.var (Ye (Yr P t) (H.length+1) hs).1 true::(Ye (Yr P t) (H.length+1) hs).2.1,hs') else none
   |_=>none
  |none=>none
 |.box t x=>
  match (Ye (ZB1 (Zp P ts t x)) (H.length+1) hs).2.2 with
  |.raw::hs'=>if(ZB1 (Zp P ts t x)).solid then some ([],.ref H.length 0 [],H++.var (Ye (ZB1 (Zp P ts t x)) (H.length+1) hs).1 true::(Ye (ZB1 (Zp P ts t x)) (H.length+1) hs).2.1,hs') else none
  |_=>none
 |.store t a x=>match Zp P ts 0 a,Zp P ts t x with
  |.ref id off path,v=>match H[id]? with
   |some (.var d true)=>match Z3 d path hs with
    |some (C,off',sub,hs')=>match ZbW path d v with
     |some new=>match Xi new d path hs with
      |some d'=>if new.solid&&new.size==sub.size&&P.cellsOf t==new.size&&(P.info? t).isSome&&new.isAgg==sub.isAgg then(match (Ye d' H.length hs').2.2 with
       |.raw::hs''=>some (C++[off'=off],.junk,H.set id (.var (Ye d' H.length hs').1 true)++(Ye d' H.length hs').2.1,hs'')
       |_=>none) else none
      |none=>none
     |none=>none
    |none=>none
   |_=>none
  |.rref id v off path,w=>match H[id]? with
   |some (.row v' s true e d)=>match Z3 d path hs with
    |some (C,off',sub,hs')=>match ZbW path d w with
     |some new=>match Xi new d path hs with
      |some d'=>if new.solid&&new.size==sub.size&&P.cellsOf t==new.size&&(P.info? t).isSome&&new.isAgg==sub.isAgg&&v'==v&&rowN d' s==rowN d s then
        some (C++[off'=off],.junk,H.set id (.row v s true e d'),hs') else none
      |none=>none
     |none=>none
    |none=>none
   |_=>none
  |_,_=>none
 |.buildSlice t len parts=>match hs with
  |.fresh id::hs'=>match P.underlying t,H[id]? with
   |some (.slice e),some (.row v s st e' dd)=>match P.info? e,Y8 P ts e (P.cellsOf e) len parts.toList with
    |some i,some xs=>if zOk i&&i.size !=0&&len*i.size≤16777216&&e'==e&&s==i.size then some ([],.rv id (v+1) i.size 0 len,H.set id (.row (v+1) i.size true e (.p (.arr len i.size (xs.map Pl.soft)))),hs') else none
    |_,_=>none
   |_,_=>none
  |.arr::hs'=>match P.underlying t with
   |some (.slice e)=>match P.info? e,Y8 P ts e (P.cellsOf e) len parts.toList with
    |some i,some xs=>if zOk i&&i.size !=0&&len*i.size≤16777216 then some ([],.rv H.length 0 i.size 0 len,H++[.row 0 i.size true e (.p (.arr len i.size (xs.map Pl.soft)))],hs') else none
    |_,_=>none
   |_=>none
  |.raw::hs'=>match P.underlying t with
   |some (.slice e)=>match P.info? e,Zdb P ts e (P.cellsOf e) len parts.toList with
    |some i,some ds=>if zOk i&&i.size !=0&&len*i.size≤16777216 then some ([],.rv H.length 0 i.size 0 len,H++[.row 0 i.size true e (.arr len i.size ds)],hs') else none
    |_,_=>none
   |_=>none
  |.own::hs'=>match P.underlying t with
   |some (.slice e)=>match P.info? e,Y8 P ts e (P.cellsOf e) len parts.toList with
    |some i,some xs=>if zOk i&&i.size !=0&&len*i.size≤16777216 then some ([],.own H.length (some true) i.size (xs.map Pl.soft),H++[.log i.size e (xs.map Pl.soft)],hs') else none
    |_,_=>none
   |_=>none
  |_=>none
 |.slice t x lo hi none=>match P.underlying t,Zp P ts t x,ZbC P ts lo,ZbC P ts hi with
  |some (.array n e),.ref id off path,some l,some h=>match hs with
   |.frz::hs'=>match H[id]? with
    |some (.var d _)=>match Z3 d path hs' with
     |some (C,off',.p (.arr n' s xs),hs'')=>
      if n=n'&&P.cellsOf e=s&&(P.info? e).isSome&&n≤maxLen then some (C++[off'=off]++Yt n l h,.p (.sl (some true) s (We xs l h)),H.set id (.var d false),hs'') else none
     |_=>none
    |_=>none
   |_=>none
  |some (.slice e),.rv id v s lo' n,some l,some (some h)=>match hs with
   |.arr::hs'=>match H[id]? with
    |some (.row v' s' true e' (.p (.arr N s2 xs)))=>if P.cellsOf e=s&&(P.info? e).isSome&&v'==v&&s'==s&&s2==s&&s' !=0&&lo'==0&&l.getD 0==0 then
      some ([0≤h,h.toNat≤N],.rv id v s 0 h.toNat,H.set id (.row v s true e' (.p (.arr h.toNat s (xs.take h.toNat)))),hs') else none
    |_=>none
   |_=>none
  |_,_,_,_=>none
 |.call c=>match c.callee with
  |.builtin .append=>match c.args.toList,c.argTypes.toList with
   |[x,y],[t,u]=>match P.underlying t,Zp P ts t x with
    |some (.slice e),.own id nn s xs=>match P.info? e,ZoL P s u H hs (Zp P ts u y),H[id]? with
     |some i,some (C,ys,hs'),some (.log s' e' zs)=>if zOk i&&i.size=s&&s'=s&&e'=e&&s !=0 then
       some (C++[zs=xs,(xs.length+ys.length)*i.bytes≤Zo,xs.length+ys.length≤maxLen],.own id none s (xs++ys),H.set id (.log s e (xs++ys)),hs') else none
     |_,_,_=>none
    |some (.slice e),.p (.sl (some false) _ [])=>match hs,P.info? e,ZeH P (P.cellsOf e) u (Zp P ts u y) with
     |.own::hs',some i,some ys=>if zOk i&&i.size !=0 then
       some ([ys.length*i.bytes≤Zo,ys.length≤maxLen],.own H.length none i.size ys,H++[.log i.size e ys],hs') else none
     |.arr::hs',some i,some ys=>if zOk i&&i.size !=0 then
       some ([ys.length*i.bytes≤Zo,ys.length≤maxLen],.rv H.length 0 i.size 0 ys.length,H++[.row 0 i.size true e (.p (.arr ys.length i.size ys))],hs') else none
     |_,_,_=>none
    |some (.slice e),.rv id v s lo n=>match hs with
     |.bare::hs0=>match P.info? e,ZoL P (P.cellsOf e) u H hs0 (Zp P ts u y) with
      |some i,some (C,ys,hs')=>if zOk i then some (C++[ys=[]],.rv id v s lo n,H,hs') else none
      |_,_=>none
     |.raw::hs0=>match P.info? e,ZoL P s u H hs0 (Zp P ts u y),H[id]? with
      |some i,some (C,ys,hs'),some (.row v' s' st e' (.p (.arr N s'' xs)))=>if zOk i&&i.size=s&&s'=s&&s''=s&&e'=e&&s !=0&&v'==v&&lo=0 then
        some (C++[n≤N,(n+ys.length)*i.bytes≤Zo,n+ys.length≤maxLen,st=true∨n=N],.rv id (v+1) s 0 (n+ys.length),H.set id (.row (v+1) s st e (.p (.arr (n+ys.length) s (xs.take n++ys)))),hs') else none
      |_,_,_=>none
     |.snap::hs0=>match P.info? e,ZoL P s u H hs0 (Zp P ts u y),H[id]? with
      |some i,some (C,ys,hs'),some (.row v' s' true e' (.p (.arr N s'' xs)))=>if zOk i&&i.size=s&&s'=s&&s''=s&&e'=e&&s !=0&&v'==v&&lo=0 then
        some (C++[0 < N,n+ys.length≤N],.rv id v s 0 (n+ys.length),H.set id (.row v s true e (.p (.arr N s (xs.take n++(ys++xs.drop (n+ys.length)))))),hs') else none
      |_,_,_=>none
     |_=>none
    |_,_=>none
   |_,_=>none
  |.builtin .clear=>match c.args.toList,c.argTypes.toList with
   |[x],[t]=>match P.underlying t,Zp P ts t x with
    |some (.slice e),.rv id v s lo n=>match P.info? e,Yr P e,H[id]? with
     |some i,.p z,some (.row v' s' true e' (.p (.arr N s'' xs)))=>if zOk i&&i.size=s&&s'=s&&s''=s&&v'==v&&s !=0&&z.size==s then
       some ([n=1,lo+1≤N],.tup [],H.set id (.row v s true e' (.p (.arr N s (xs.set lo z.soft)))),hs) else none
     |_,_,_=>none
    |_,_=>none
   |_,_=>none
  |.builtin .delete=>match c.args.toList,c.argTypes.toList with
   |[x,y],[t,u]=>match P.underlying t,Zp P ts t x with
    |some (.map kt _),.mp id=>match Zp P ts u y,H[id]?,hs with
     |.p k,some (.map t' kvs),.kvs l::hs'=>if ZfZ P kt then some ([fitP P 20 kt k,Qi P kt kvs,ZbB kvs k l],.tup [],H.set id (.map t' l),hs') else none
     |_,_,_=>none
    |_,_=>none
   |_,_=>none
  |.builtin .copy=>match c.args.toList,c.argTypes.toList with
   |[x,y],[t,u]=>match P.underlying t,Zp P ts t x with
    |some (.slice e),.view id off path s lo n=>match ZeH P s u (Zp P ts u y),H[id]? with
     |some ys,some (.var dd true)=>match Z3 dd path hs with
      |some (C,off',.p (.arr N s' xs),hs')=>match Xi (.p (.arr N s' (ZoK xs ys lo))) dd path hs with
       |some dd'=>if s'=s&&P.cellsOf e=s&&(P.info? e).isSome then some (C++[off'=off,ys.length≤n,lo+n≤N],.p (.int .i64 (ys.length:Int)),H.set id (.var dd' true),hs') else none
       |none=>none
      |_=>none
     |_,_=>none
    |_,_=>none
   |_,_=>none
  |.value f=>match Zp P ts 0 f,hs with
   |.fn g cap,.call r H' ids::hs'=>
    if VE P (ZaC g)&&c.args.size==c.argTypes.size&&once ids&&ids.length≤H'.length then
     match Dv.rns (toIds ids) (ZM P ids ts c g cap),subEnts H ids ids,r.rn (fromIds ids H.length),Ent.rns (fromIds ids H.length) H' with
     |some args',some Hin,some r',some Hb=>some ([Con P (ZaC g) args' Hin r H'],r',putBack H ids Hb,hs')
     |_,_,_,_=>none
    else none
   |_,_=>none
  |.invoke recv name=>match Zp P ts 0 recv,hs with
   |.iface t x,.meth g::.call r H' ids::hs'=>
    if VE P g&&c.args.size==c.argTypes.size&&once ids&&ids.length≤H'.length then
     match Dv.rns (toIds ids) (x.argI ids::ZM P ids ts c 0 []),subEnts H ids ids,r.rn (fromIds ids H.length),Ent.rns (fromIds ids H.length) H' with
     |some args',some Hin,some r',some Hb=>some ([ZFb P t name g,Con P g args' Hin r H'],r',putBack H ids Hb,hs')
     |_,_,_,_=>none
    else none
   |_,_=>none
  |_=>none
 |_=>none
def Zdl(P:yg)(o:Oper)(ts:List Dv)(H:List Ent)(hs:List Hint):ZJj:=
 match evN P o ts hs with
 |some (C,d,hs')=>some (C,d,H,hs')
 |none=>match evR P o ts H hs with
  |some (C,d,hs')=>some (C,d,H,hs')
  |none=>evE P o ts H hs
def Zin(ts:List Dv)(dst:Option Tmp)(d:Dv):List Dv:=
 match dst with
 |some i=>ts.set i d
 |none=>ts
def Zq3(dst:Option Tmp)(d:Dv)(hs:List Hint):List Prop×Dv×List Hint:=([],d,hs)
def evG(P:yg)(ops:Array Oper)(o:Oper)(ts:List Dv)(H:List Ent)(hs:List Hint):ZJj:=
 match o.guard with
 |none=>(Zdl P o ts H hs).map λ(C,d,H',hs')=>(C++(Zq3 o.dst d hs').1,(Zq3 o.dst d hs').2.1,H',(Zq3 o.dst d hs').2.2)
 |some (j,want)=>match ((ops[j]?).bind (·.dst)).map λt=>ts.getD t .junk,hs with
  |some (.p (.bool t)),.b β::hs'=>
   if β=want then(Zdl P o ts H hs').map λ(C,d,H',hs'')=>((t=β)::C++(Zq3 o.dst d hs'').1,(Zq3 o.dst d hs'').2.1,H',(Zq3 o.dst d hs'').2.2)
   else some ([t=β],.tup [],H,hs')
  |some (.tup []),.raw::hs'=>some ([],.tup [],H,hs')
  |_,_=>none
def ZkX(P:yg)(ops:Array Oper):List Oper→List Dv→List Ent→List Hint→Option (List Prop×List Dv×List Ent×List Hint)
 |[],ts,H,hs=>some ([],ts,H,hs)
 |o::rest,ts,H,hs=>match evG P ops o ts H hs with
  |some (C,d,H',hs')=>match ZkX P ops rest (Zin ts o.dst d) H' hs' with
   |some (C',ts',H'',hs'')=>some (C++C',ts',H'',hs'')
   |none=>none
  |none=>none
def looks(ops:Array Oper)(o:Oper):List Nat:=
 (o.op.operands.toList.filterMap λx=>match x with|.tmp t=>some t|_=>none)++
 (match o.guard with|some (g,_)=>((ops[g]?).bind (·.dst)).toList|none=>[])
def ZH(keep:List Nat):Nat→List Dv→List Dv
 |_,[]=>[]
 |i,d::r=>(if keep.contains i then d else .junk)::ZH keep (i+1) r
def clsOf(P:yg)(o:Oper)(ts:List Dv)(H:List Ent)(hs:List Hint):Nat:=
 match o.guard,hs with
 |some (_,want),.b β::hs'=>if β=want then(if(evN P o ts hs').isSome then 0 else if(evR P o ts H hs').isSome then 1 else 2) else 0
 |some _,.raw::_=>0
 |_,hs=>if(evN P o ts hs).isSome then 0 else if(evR P o ts H hs).isSome then 1 else 2
def ZoM(P:yg)(o:Oper)(ts:List Dv):Option Nat:=
 match o.op with
 |.load t a=>match Zp P ts 0 a with
  |.ref id _ _=>some id
  |.rref id _ _ _=>some id
  |_=>none
 |.slice t x _ _ none=>match Zp P ts t x with
  |.ref id _ _=>some id
  |_=>none
 |.lookup t x _ _=>match Zp P ts t x with
  |.mp id=>some id
  |_=>none
 |.call c=>match c.callee with
  |.value f=>match Zp P ts 0 f with
   |.fn g cap=>Dv.rvsOf (ZM P [] ts c g cap)
   |_=>none
  |_=>none
 |_=>none
def Zbe(P:yg)(o:Oper)(ts:List Dv)(hs:List Hint):Option (List Nat):=
 match o.op with
 |.assign _=>some []
 |.move _=>some []
 |.makeSlice _ _ _=>some []
 |.makeMap _ none=>some []
 |.alloc _=>some []
 |.box _ _=>some []
 |.buildSlice _ _ _=>match hs with
  |.fresh id::_=>some [id]
  |_::_=>some []
  |[]=>none
 |.slice t x _ _ none=>match Zp P ts t x with
  |.rv id _ _ _ _=>some [id]
  |_=>some []
 |.store t x y=>match Zp P ts 0 x with
  |.ref id _ _=>some [id]
  |.rref id _ _ _=>some [id]
  |_=>none
 |.call c=>match c.callee with
  |.builtin .append=>match c.args.toList,c.argTypes.toList with
   |[x,y],[t,u]=>match Zp P ts t x with
    |.own id _ _ _=>some [id]
    |.rv id _ _ _ _=>some [id]
    |.p _=>some []
    |_=>none
   |_,_=>none
  |.value _=>match hs with
   |.call _ _ ids::_=>some ids
   |_=>none
  |.invoke _ _=>match hs with
   |.meth _::.call _ _ ids::_=>some ids
   |_=>none
  |_=>none
 |_=>none
structure Rec where
 hs:List Hint
 C:List Prop
 d:Dv
 H:List Ent
 H':List Ent
 hs':List Hint
 cls:Nat
 rd:Option Nat
 tc:Option (List Nat)
 push:Bool
 loc:Bool
 ex:Bool
def exO(o:Oper):Bool:=match o.op with
 |.slice _ _ _ _ _=>true
 |_=>false
def ZB2(r:Dv)(Hn:List Ent)(ids:List Nat):Bool:=Hn.length==ids.length&&(r.rn (λj=>ids[j]?)).isSome&&(Ent.rns (λj=>ids[j]?) Hn).isSome
def ZmQ(o:Oper)(hs:List Hint):Bool:=o.guard.isNone&&match o.op with
 |.call c=>match c.callee with
  |.value _=>match hs with
   |.call r Hn ids::_=>ZB2 r Hn ids
   |_=>false
  |.invoke _ _=>match hs with
   |.meth _::.call r Hn ids::_=>ZB2 r Hn ids
   |_=>false
  |_=>false
 |_=>false
def ZbX(o:Oper)(hs:List Hint)(n:Nat):Bool:=o.guard.isNone&&match o.op with
 |.alloc _=>true
 |.call c=>match c.callee with
  |.value _=>match hs with
   |.call r Hn ids::_=>ids.isEmpty&&ZB2 r Hn [n]
   |_=>false
  |_=>false
 |_=>false
def ZGq(P:yg)(o:Oper)(ts:List Dv):Option Nat:=ZoM P o ts
def Zxl(P:yg)(o:Oper)(ts:List Dv)(hs:List Hint):Option (List Nat):=if o.guard.isNone then Zbe P o ts hs else none
def evD(P:yg)(ops:Array Oper):List Oper→List Dv→List Ent→List Hint→Option (List Prop×List Rec×List Dv×List Ent×List Hint)
 |[],ts,H,hs=>some ([],[],ts,H,hs)
 |o::rest,ts,H,hs=>match evG P ops o (ZH (looks ops o) 0 ts) H hs with
  |some (C,d,H',hs')=>match evD P ops rest (Zin ts o.dst d) H' hs' with
   |some (C',rs,ts',H'',hs'')=>some (C++C',⟨hs,C,d,H,H',hs',clsOf P o (ZH (looks ops o) 0 ts) H hs,ZGq P o (ZH (looks ops o) 0 ts),Zxl P o (ZH (looks ops o) 0 ts) hs,ZbX o hs H.length,ZmQ o hs,exO o⟩::rs,ts',H'',hs'')
   |none=>none
  |none=>none
def ZgL(A:List Nat)(i:Nat)(o:Oper):Nat:=
 o.after.toList.foldl (λm e=>if Region.binds .any e&&decide (e.on < i) then m|||(1 <<< e.on)|||A.getD e.on 0 else m) 0
def ZKU:List Oper→Nat→List Nat→List Nat
 |[],_,A=>A
 |o::r,i,A=>ZKU r (i+1) (A++[ZgL A i o])
def ZGr(ops:List Oper):List Nat:=ZKU ops 0 []
def Zf0(l:List Oper):Nat→Bool
 |i=>match l with
  |[]=>true
  |o::r=>(o.after.toList.all λe=> !Region.binds .any e || decide (e.on < i))&&Zf0 r (i+1)
def Zf1(l:List Oper)(i:Nat):Option Tmp:=(l[i]?).bind (·.dst)
noncomputable def ZLk(id:Nat)(q:Rec):Bool:=@decide (rdE (q.H'[id]?)=rdE (q.H[id]?)) (Classical.propDecidable _)
noncomputable def ZiE(rs:List Rec)(i j:Nat):Bool:=
 match rs[i]?,rs[j]? with
 |some r,some q=>(match r.rd with
  |some id=>decide (id < q.H.length)&&decide (id < r.H.length)&&(if r.ex=true then q.push else((match q.tc with|some l=> !l.contains id|none=>false) || ZLk id q))
  |none=>false)
 |_,_=>false
def cOk(rs:List Rec)(c:Nat)(r:Rec):Bool:=r.loc || (r.push&&r.H'.length==r.H.length+1&&(rs.take c).all λq=>decide (q.H.length≤r.H.length))
def Zfv(rs:List Rec)(c i j:Nat):Bool:=((rs[c]?).map (cOk rs c)).getD false&&((i==c&&decide (c < j)&&((rs[j]?).map (·.push)).getD false) || (j==c&&decide (c < i)&&((rs[i]?).map (·.push)).getD false))
noncomputable def Zxm(ops:Array Oper)(rs:List Rec):Bool:=
 let cls:=rs.map (·.cls);let l:=ops.toList;let A:=ZGr l;let n:=l.length
 (cls.length==n)&&Zf0 l 0&&
 ((yq n).all λi=>match l[i]? with|some o=>A.getD i 0==ZgL A i o|none=>true)&&
 ((yq n).all λi=>(yq n).all λj=>i==j || Zf1 l i==none || !(Zf1 l i==Zf1 l j))&&
 ((yq n).all λi=>match l[i]? with
   |some o=>let k:=looks ops o
    (yq n).all λj=>match Zf1 l j with
      |some t=>i==j || !(k.contains t) || (if j < i then(A.getD i 0).testBit j else(A.getD j 0).testBit i)
      |none=>true
   |none=>true)&&
 ((yq (n+1)).any λc=>(yq n).all λi=>cls.getD i 0==0 || (yq n).all λj=>i==j || !(cls.getD j 0==2) || (if j < i then(A.getD i 0).testBit j else(A.getD j 0).testBit i) || (cls.getD i 0==1&&ZiE rs i j) || Zfv rs c i j)
noncomputable def Zxn(P:yg)(ops:Array Oper)(ts:List Dv)(H:List Ent)(hs:List Hint):Option (List Prop×List Dv×List Ent×List Hint):=
 if P.follows .mixedOrders then
  match evD P ops ops.toList ts H hs with
  |some (C,rs,ts',H',hs')=>if Zxm ops rs then some (C,ts',H',hs') else none
  |none=>none
 else none
def ZmR(ts:List Dv):List Nat→List Dv
 |[]=>ts
 |i::r=>ZmR (ts.set i .junk) r
abbrev ZNU:=Option (List Prop×Ex×List Dv×List Ent×List Hint)
noncomputable def ev(P:yg):Code→List Dv→List Ent→List Hint→ZNU
 |.skip,ts,H,hs=>some ([],.normal,ts,H,hs)
 |.label _,ts,H,hs=>some ([],.normal,ts,H,hs)
 |.region _ ops draw,ts,H,hs=>if draw then(Zxn P ops ts H hs).map λ(C,ts',H',hs')=>(C,.normal,ts',H',hs') else(ZkX P ops ops.toList ts H hs).map λ(C,ts',H',hs')=>(C,.normal,ts',H',hs')
 |.seq x y,ts,H,hs=>match ev P x ts H hs with
  |some (C,.normal,ts',H',hs')=>match ev P y ts' H' hs' with
   |some (C',ex,ts'',H'',hs'')=>some (C++C',ex,ts'',H'',hs'')
   |none=>none
  |r=>r
 |.cond c x y,ts,H,hs=>match Zp P ts 0 c,hs with
  |.p (.bool t),.b true::hs'=>(ev P x ts H hs').map λ(C,r)=>((t=true)::C,r)
  |.p (.bool t),.b false::hs'=>(ev P y ts H hs').map λ(C,r)=>((t=false)::C,r)
  |_,_=>none
 |.block id body,ts,H,hs=>match ev P body ts H hs with
  |some (C,.exit id',ts',H',hs')=>some (C,if id'=id then .normal else .exit id',ts',H',hs')
  |r=>r
 |.loop body,ts,H,hs=>match hs with
  |.loop mask ex ts' H'::hs'=>if ex=.normal then none else some ([YU P (.loop body) (ZmR ts mask) H ex ts' H'],ex,ts',H',hs')
  |_=>none
 |.scope body,ts,H,hs=>ev P body ts H hs
 |.exit id,ts,H,hs=>some ([],.exit id,ts,H,hs)
 |.ret,ts,H,hs=>some ([],.ret,ts,H,hs)
 |_,_,_,_=>none
def ZuX(P:yg)(ts:List Dv)(H:List Ent):List ResultVar→List Hint→Option (List Prop×List Dv)
 |[],_=>some ([],[])
 |.tmp t::r,hs=>(ZuX P ts H r hs).map λq=>(q.1,ts.getD t .junk::q.2)
 |.cell a ty::r,hs=>match ts.getD a .junk with
  |.ref id off path=>match H[id]? with
   |some (.var d _)=>match Z3 d path hs with
    |some (C,off',sub,hs')=>if okT P ty sub then(ZuX P ts H r hs').map λq=>(C++[off'=off]++q.1,sub::q.2) else none
    |none=>none
   |_=>none
  |_=>none
def Zr8:List Dv→Dv
 |[d]=>d
 |ds=>.tup ds
def fin(P:yg)(fn:Func)(ts:List Dv)(H:List Ent)(k:Nat)(keep:List Nat)(hs:List Hint):Option (List Prop×Dv×List Ent):=
 match ZuX P ts H fn.results.toList hs with
 |some (C,ds)=>
  let L:=yq k++keep
  match once L,(Zr8 (ds.map Dv.arg)).rn (toIds L),(Zr8 ds).rn (toIds L),subEnts H L L with
  |true,_,some r,some H'=>some (C,r,H')
  |true,some r,none,some H'=>some (C,r,H')
  |_,_,_,_=>none
 |none=>none
def AllP:List Prop→Prop
 |[]=>True
 |p::r=>p∧AllP r
end Go.Ev
end
section
namespace Go.Ev
section
variable{σ:Sg}{v:yh}
theorem ZD{k:IntKind}{n:Int}(h:repDV σ (.p (.int k n)) v):v=.int k n:=by simpa[repDV,Dv.isAgg,Pl.isAgg,repD,repC] using h
theorem Yk{b:Bool}(h:repDV σ (.p (.bool b)) v):v=.bool b:=by simpa[repDV,Dv.isAgg,Pl.isAgg,repD,repC] using h
theorem Zdc{b:ByteArray}(h:repDV σ (.p (.str b)) v):v=.string b:=by simpa[repDV,Dv.isAgg,Pl.isAgg,repD,repC] using h
theorem Zdm(h:repDV σ (.p .ptr0) v):v=.pointer none:=by simpa[repDV,Dv.isAgg,Pl.isAgg,repD,repC] using h
theorem ZoN(h:repDV σ (.p .fn0) v):v=.nilFunc:=by simpa[repDV,Dv.isAgg,Pl.isAgg,repD,repC] using h
theorem Zs(k:IntKind)(n:Int):repDV σ (.p (.int k n)) (.int k n):=by simp[repDV,Dv.isAgg,Pl.isAgg,repD,repC]
theorem Z6(b:Bool):repDV σ (.p (.bool b)) (.bool b):=by simp[repDV,Dv.isAgg,Pl.isAgg,repD,repC]
theorem YN:repDV σ .junk v:=by simp[repDV,Dv.isAgg,repD]
theorem ZZ{d:Dv}(ha:d.isAgg=true):repDV σ d v↔∃cs:Array yh,v=.agg cs∧repD σ d cs.toList:=by
 simp[repDV,ha]
theorem Ze{d:Dv}(ha:d.isAgg=false):repDV σ d v↔repD σ d [v]:=by
 simp[repDV,ha]
theorem Y9{nn:Option Bool}{s:Nat}{xs:List Pl}(h:repDV σ (.p (.sl nn s xs)) v):
 allSz s xs∧∃A c,v=.slice A xs.length c∧xs.length≤c∧c≤maxLen∧Zq2 nn A∧(A=none→c=0)∧
  (xs≠[]→∃b o us,A=some ⟨b,o,none⟩∧repCs σ.w σ.stab xs us∧Xr σ.w σ.stab b o us):=by
 rw[Ze (by rfl)] at h;simpa[repD,repC] using h
theorem Z7{nn:Option Bool}{s:Nat}{xs:List Pl}{A:Option Addr}{c:Nat}(h1:allSz s xs)(h2:xs.length≤c)(h3:c≤maxLen)(h4:Zq2 nn A)(h5:A=none→c=0)
 (h6:xs≠[]→∃b o us,A=some ⟨b,o,none⟩∧repCs σ.w σ.stab xs us∧Xr σ.w σ.stab b o us):repDV σ (.p (.sl nn s xs)) (.slice A xs.length c):=by
 rw[Ze (by rfl)];simp only[repD,repC];exact⟨h1,A,c,rfl,h2,h3,h4,h5,h6⟩
theorem Qj{id s:Nat}{nn:Option Bool}{xs:List Pl}(h:repDV σ (.own id nn s xs) v):
 allSz s xs∧∃A c,v=.slice A xs.length c∧xs.length≤c∧c≤maxLen∧Zq2 nn A∧(A=none→c=0)∧
  (xs≠[]→∃b o us,A=some ⟨b,o,none⟩∧repCs σ.w σ.stab xs us∧Xr σ.w σ.stab b o us)∧ownFront σ id s xs.length A c:=by
 rw[Ze (by rfl)] at h;simpa[repD] using h
theorem Vn{id s:Nat}{nn:Option Bool}{xs:List Pl}(h:repDV σ (.own id nn s xs) v):repDV σ (.p (.sl nn s xs)) v:=by
 obtain⟨h1,A,c,rfl,h2,h3,h4,h5,h6,_⟩:=Qj h;exact Z7 h1 h2 h3 h4 h5 h6
end
mutual
theorem Xe{w:yy}{S:Nat→Nat→Prop}:∀(x:Pl)(vs:List yh),repC w S x vs→vs.length=x.size
 |.int _ _,_,h=>by simp only[repC] at h;subst h;rfl
 |.bool _,_,h=>by simp only[repC] at h;subst h;rfl
 |.str _,_,h=>by simp only[repC] at h;subst h;rfl
 |.ptr0,_,h=>by simp only[repC] at h;subst h;rfl
 |.fn0,_,h=>by simp only[repC] at h;subst h;rfl
 |.if0,_,h=>by simp only[repC] at h;subst h;rfl
 |.map0,_,h=>by simp only[repC] at h;subst h;rfl
 |.fnv _,_,h=>by simp only[repC] at h;subst h;rfl
 |.agg xs,vs,h=>by
  simp only[repC] at h
  simpa[Pl.size] using repCs_size xs vs h
 |.arr n s xs,vs,h=>by
  simp only[repC] at h;obtain⟨h1,h2,h3⟩:=h;have:=repCs_size xs vs h3;rw[this,Pl.size, ←h1]
  exact sizes_all h2
 |.sl _ _ _,_,h=>by
  simp only[repC] at h;obtain⟨_,A,c,h,_⟩:=h
  subst h;rfl
 |.iface _ _,_,h=>by
  simp only[repC] at h;obtain⟨v,h,_⟩:=h;subst h;rfl
theorem repCs_size{w:yy}{S:Nat→Nat→Prop}:∀(xs:List Pl)(vs:List yh),repCs w S xs vs→vs.length=Pl.sizes xs
 |[],_,h=>by simp only[repCs] at h;subst h;rfl
 |x::xs,vs,h=>by
  simp only[repCs] at h;obtain⟨us,us',rfl,h1,h2⟩:=h;rw[yr,Xe x us h1,repCs_size xs us' h2,Pl.sizes]
theorem sizes_all{s:Nat}:∀{xs:List Pl},allSz s xs→Pl.sizes xs=xs.length*s
 |[],_=>by simp[Pl.sizes]
 |x::xs,h=>by
  rw[Pl.sizes,h x (yap ..),sizes_all (λy hy=>h y (yau _ hy)),yai,yat];omega
end
theorem Z4{w:yy}{S:Nat→Nat→Prop}{xs ys:List Pl}{us vs:List yh}(h:repCs w S xs us)(k:repCs w S ys vs):repCs w S (xs++ys) (us++vs):=by
 induction xs generalizing us with
 |nil=>simp only[repCs] at h;subst h;simpa using k
 |cons x xs ih=>
  simp only[repCs] at h;obtain⟨a,b,rfl,h1,h2⟩:=h;simp only[yaa,repCs,yak];exact⟨a,b++vs,rfl,h1,ih h2⟩
theorem Z0{w:yy}{S:Nat→Nat→Prop}{xs ys:List Pl}{us:List yh}(h:repCs w S (xs++ys) us):∃a b,us=a++b∧repCs w S xs a∧repCs w S ys b:=by
 induction xs generalizing us with
 |nil=>exact⟨[],us,rfl,by simp[repCs],h⟩
 |cons x xs ih=>
  simp only[yaa,repCs] at h;obtain⟨a,b,rfl,h1,h2⟩:=h;obtain⟨c,d,rfl,h3,h4⟩:=ih h2;exact⟨a++c,d,by simp,by simp only[repCs];exact⟨a,c,rfl,h1,h3⟩,h4⟩
theorem Xx{s:Nat}{xs ys:List Pl}(h:allSz s xs)(k:allSz s ys):allSz s (xs++ys):=by
 intro x hx;rcases List.mem_append.1 hx with h1|h1
 ·exact h x h1
 ·exact k x h1
theorem Wg{s:Nat}{xs:List Pl}(h:allSz s xs)(n:Nat):allSz s (xs.take n):=λx hx=>h x (ybn hx)
theorem ZgM{s:Nat}{xs:List Pl}(h:allSz s xs)(n:Nat):allSz s (xs.drop n):=λx hx=>h x (List.mem_of_mem_drop hx)
theorem Xr.append{w:yy}{S:Nat→Nat→Prop}{b o:Nat}{us vs:List yh}(h:Xr w S b o (us++vs)):Xr w S b o us∧Xr w S b (o+us.length) vs:=by
 constructor
 ·intro j u hu;exact h j u (by rw[yah (yo.1 hu).1];exact hu)
 ·intro j u hu;have:=h (us.length+j) u (by rw[yam (by omega)];simpa using hu)
  rwa [←yce] at this
theorem Zr9{P:yg}{t:yb}{v:yh}{x:Pl}(h:Zxj P t v=some x)(w:yy)(S:Nat→Nat→Prop):repC w S x [v]∧x.isAgg=false:=by
 unfold Zxj at h
 split at h <;> first
  |(cases h;done)
  |(simp only[yj] at h;subst h;refine⟨?_,rfl⟩;simp only[repC];done)
  |(simp only[yj] at h;subst h;exact⟨by simp only[repC];exact⟨λ_ hx=>(by cases hx),none,0,rfl,ym _,Nat.zero_le _,Zr7 rfl,λ_=>rfl,λhn=>absurd rfl hn⟩,rfl⟩)
mutual
theorem Zsa{P:yg}:∀(fuel:Nat)(t:yb)(vs:List yh)(x:Pl)(r:List yh),ZFc P fuel t vs=some (x,r)→∀w S,∃us,vs=us++r∧repC w S x us
 |0,_,_,_,_,h,_,_=>by simp[ZFc] at h
 |fuel+1,t,vs,x,r,h,w,S=>by
  simp only[ZFc] at h;split at h
  ·rename_i fs _;simp only[yp,yl] at h;obtain⟨⟨xs,r'⟩,h1,rfl,rfl⟩:=h;obtain⟨us,e,hr⟩:=plFields_rep fuel _ _ _ _ h1 w S;exact⟨us,e,by simpa[repC] using hr⟩
  ·rename_i n e _;simp only[yp,yl] at h;obtain⟨⟨xs,r'⟩,h1,rfl,rfl⟩:=h;obtain⟨us,e',hl,ha,hr⟩:=plArr_rep fuel _ _ _ _ _ h1 w S;exact⟨us,e',by simp only[repC];exact⟨hl,ha,hr⟩⟩
  ·split at h
   ·rename_i v r';simp only[yp,yl] at h;obtain⟨x',h1,rfl,rfl⟩:=h;exact⟨[v],rfl,(Zr9 h1 w S).1⟩
   ·cases h
  ·cases h
theorem plFields_rep{P:yg}:∀(fuel:Nat)(ts:List yb)(vs:List yh)(xs:List Pl)(r:List yh),plFields P fuel ts vs=some (xs,r)→∀w S,∃us,vs=us++r∧repCs w S xs us
 |0,_,_,_,_,h,_,_=>by simp[plFields] at h
 |fuel+1,[],vs,xs,r,h,w,S=>by
  simp only[plFields,yj,yl] at h;obtain⟨rfl,rfl⟩:=h
  exact⟨[],rfl,by simp[repCs]⟩
 |fuel+1,t::ts,vs,xs,r,h,w,S=>by
  simp only[plFields] at h;split at h
  ·rename_i x r' h1;simp only[yp,yl] at h;obtain⟨⟨xs',r''⟩,h2,rfl,rfl⟩:=h;obtain⟨us,e1,k1⟩:=Zsa fuel _ _ _ _ h1 w S;obtain⟨us',e2,k2⟩:=plFields_rep fuel _ _ _ _ h2 w S;subst e2;exact⟨us++us',by rw[e1,yak],by simp only[repCs];exact⟨us,us',rfl,k1,k2⟩⟩
  ·cases h
theorem plArr_rep{P:yg}:∀(fuel:Nat)(e:yb)(n:Nat)(vs:List yh)(xs:List Pl)(r:List yh),plArr P fuel e n vs=some (xs,r)→
 ∀w S,∃us,vs=us++r∧xs.length=n∧allSz (P.cellsOf e) xs∧repCs w S xs us
 |0,_,_,_,_,_,h,_,_=>by simp[plArr] at h
 |fuel+1,e,0,vs,xs,r,h,w,S=>by
  simp only[plArr,yj,yl] at h;obtain⟨rfl,rfl⟩:=h
  exact⟨[],rfl,rfl,(λ_ hx=>(by cases hx)),by simp[repCs]⟩
 |fuel+1,e,n+1,vs,xs,r,h,w,S=>by
  simp only[plArr] at h;split at h
  ·rename_i x r' h1;split at h
   ·rename_i hs;simp only[yp,yl] at h;obtain⟨⟨xs',r''⟩,h2,rfl,rfl⟩:=h;obtain⟨us,e1,k1⟩:=Zsa fuel _ _ _ _ h1 w S;obtain⟨us',e2,hl,ha,k2⟩:=plArr_rep fuel _ _ _ _ _ h2 w S;subst e2;refine⟨us++us',by rw[e1,yak],by simp[hl], ?_,by simp only[repCs];exact⟨us,us',rfl,k1,k2⟩⟩;intro y hy
    cases hy with
    |head=>exact hs
    |tail _ hy=>exact ha y hy
   ·cases h
  ·cases h
end
theorem ZpW{σ:Sg}{f:yu}(hf:f < big):repDV σ (.fn f []) (.func (.func f) #[] #[]):=by
 have e:ZaC f=f:=by
  unfold ZaC;rw[if_pos hf]
 rw[Ze rfl];simp only[repD];exact⟨#[], #[],by rw[e],if_pos hf,by simp[repVs]⟩
theorem Wh{P:yg}{t:yb}{v:yh}{σ:Sg}:repDV σ (ZoI P t v) v:=by
 unfold ZoI;split
 ·rename_i cs;split
  ·rename_i x h;split
   ·rename_i ha;obtain⟨us,e,hr⟩:=Zsa _ _ _ _ _ h σ.w σ.stab;rw[ZZ (by simpa[Dv.isAgg] using ha)];exact⟨cs,rfl,by simp only[repD];rw[e];simpa using hr⟩
   ·exact YN
  ·exact YN
 ·rename_i f fst cap;split
  ·rename_i hh;have h1:fst= #[]:=by simpa using hh.1
   have h2:cap= #[]:=by simpa using hh.2.1
   subst h1;subst h2;exact ZpW hh.2.2
  ·exact YN
 ·split
  ·rename_i x h;have:=Zr9 h σ.w σ.stab;rw[Ze (by simpa[Dv.isAgg] using this.2)];simpa[repD] using this.1
  ·exact YN
theorem Zi{P:yg}{σ:Sg}{ts:List Dv}{a:Act}(h:RepT σ ts a)(t:yb)(x:yn):repDV σ (Zp P ts t x) (a.eval x):=by
 cases x with
 |tmp i=>
  simp only[Zp,Act.eval]
  cases hi:ts[i]? with
  |none=>simp only[List.getD,hi,Option.getD_none];exact YN
  |some d=>simp only[List.getD,hi,Option.getD_some];exact h.at_ i d hi
 |const v=>exact Wh
 |global g=>exact YN
 |func f=>
  simp only[Zp,Act.eval];split
  ·rename_i hf;exact ZpW hf
  ·exact YN
theorem ZFd{σ:Sg}{d:Dv}{x:Pl}{v:yh}(h:d.plain=some x)(hr:repDV σ d v):repDV σ (.p x) v:=by
 unfold Dv.plain at h;split at h
 ·cases h;exact hr
 ·cases h;exact Vn hr
 ·cases h
mutual
theorem Zf2{σ:Sg}:∀(d:Dv)(x:Pl)(us:List yh),d.flat=some x→repD σ d us→repC σ.w σ.stab x us
 |.p y,x,us,h,hr=>by rw[Dv.flat] at h;cases h;simpa[repD] using hr
 |.own id nn s xs,x,us,h,hr=>by
  rw[Dv.flat] at h;cases h;simp only[repD] at hr;obtain⟨k1,A,c,k2,k3,k4,k5,k6,k7,_⟩:=hr;simp only[repC]
  exact⟨k1,A,c,k2,k3,k4,k5,k6,k7⟩
 |.agg ds,x,us,h,hr=>by
  rw[Dv.flat] at h
  cases h2:Dv.flats ds with
  |none=>rw[h2] at h;cases h
  |some xs=>
   rw[h2] at h;cases h;simp only[repD] at hr;simp only[repC]
   exact flats_repD ds xs us h2 hr
 |.elem _,x,us,h,hr=>by rw[Dv.flat] at h <;> simp_all
 |.ref _ _ _,x,us,h,hr=>by rw[Dv.flat] at h <;> simp_all
 |.view _ _ _ _ _ _,x,us,h,hr=>by rw[Dv.flat] at h <;> simp_all
 |.arr _ _ _,x,us,h,hr=>by rw[Dv.flat] at h <;> simp_all
 |.fn _ _,x,us,h,hr=>by rw[Dv.flat] at h <;> simp_all
 |.iface _ _,x,us,h,hr=>by rw[Dv.flat] at h <;> simp_all
 |.tup _,x,us,h,hr=>by rw[Dv.flat] at h <;> simp_all
 |.mp _,x,us,h,hr=>by rw[Dv.flat] at h <;> simp_all
 |.rv _ _ _ _ _,x,us,h,hr=>by rw[Dv.flat] at h <;> simp_all
 |.rref _ _ _ _,x,us,h,hr=>by rw[Dv.flat] at h <;> simp_all
 |.junk,x,us,h,hr=>by rw[Dv.flat] at h <;> simp_all
theorem flats_repD{σ:Sg}:∀(ds:List Dv)(xs:List Pl)(us:List yh),Dv.flats ds=some xs→repDs σ ds us→repCs σ.w σ.stab xs us
 |[],xs,us,h,hr=>by rw[Dv.flats] at h;cases h;simpa[repDs,repCs] using hr
 |d::ds,xs,us,h,hr=>by
  rw[Dv.flats] at h;split at h
  ·rename_i x ys h1 h2;cases h;simp only[repDs] at hr;obtain⟨a,b,rfl,h3,h4⟩:=hr;simp only[repCs];exact⟨a,b,rfl,Zf2 d x a h1 h3,flats_repD ds ys b h2 h4⟩
  ·cases h
end
theorem Zsb{d:Dv}{x:Pl}(h:d.flat=some x):x.isAgg=d.isAgg:=by
 cases d <;> first
  |(rw[Dv.flat] at h;cases h;rfl)
  |(rename_i ds;rw[Dv.flat] at h;cases h2:Dv.flats ds with
     |none=>rw[h2] at h;cases h
     |some xs=>rw[h2] at h;cases h;rfl)
  |(simp[Dv.flat] at h)
theorem ZmS{σ:Sg}{d:Dv}{x:Pl}{v:yh}(h:d.flat=some x)(hr:repDV σ d v):repDV σ (.p x) v:=by
 have ha:=Zsb h
 cases hd:d.isAgg with
 |true=>
  rw[ZZ hd] at hr;rw[ZZ (by show x.isAgg=_;rw[ha,hd])];obtain⟨cs,rfl,h2⟩:=hr
  exact⟨cs,rfl,by simp only[repD];exact Zf2 d x _ h h2⟩
 |false=>
  rw[Ze hd] at hr;rw[Ze (by show x.isAgg=_;rw[ha,hd])];simp only[repD];exact Zf2 d x _ h hr
theorem ZzI{σ:Sg}{ds:List Dv}{v:yh}(hr:repDV σ (.agg ds) v):repDV σ (Dv.melt ds) v:=by
 unfold Dv.melt
 cases h:Dv.flats ds with
 |none=>exact hr
 |some xs=>exact ZmS (d:=.agg ds) (by rw[Dv.flat,h];rfl) hr
theorem Zsc{σ:Sg}{d:Dv}{v:yh}(ids:List Nat)(hr:repDV σ d v):repDV σ (d.argI ids) v:=by
 unfold Dv.argI;split
 ·split
  ·exact hr
  ·exact Vn hr
 ·split
  ·exact hr
  ·exact ZzI hr
 ·exact hr
theorem ZJk{σ:Sg}{d:Dv}{v:yh}(hr:repDV σ d v):repDV σ d.arg v:=by
 unfold Dv.arg;split
 ·exact Vn hr
 ·exact ZzI hr
 ·exact hr
end Go.Ev
end
section
namespace Go.Ev
theorem V0{k:IntKind}{x:Int}(h:Wd k x):k.wrap x=x:=by
 obtain⟨h1,h2⟩:=h;cases k <;> simp only[IntKind.min,IntKind.max,IntKind.wrap,IntKind.signed,IntKind.bits] at* <;> simp at* <;> (try split) <;> omega
theorem Zj{A B:List Prop}:AllP (A++B)↔AllP A∧AllP B:=by
 induction A with
 |nil=>simp[AllP]
 |cons p A ih=>simp[AllP,ih,and_assoc]
theorem ZbE{k:IntKind}{x:Int}{hs hs':List Hint}{C:List Prop}{d:Dv}(h:ZbA k x hs=some (C,d,hs'))(hc:AllP C)(σ:Sg):repDV σ d (.int k (k.wrap x)):=by
 unfold ZbA at h;split at h
 ·simp only[yj,yl] at h;obtain⟨rfl,rfl,rfl⟩:=h;rw[V0 hc.1];exact Zs _ _
 ·simp only[yj,yl] at h;obtain⟨rfl,rfl,rfl⟩:=h;exact Zs _ _
 ·cases h
theorem Zdd(n a:Nat)(h:a < 2 ^ n):(ybw n (a:Int)).toNat=a:=by
 rw[BitVec.ofInt_natCast,BitVec.toNat_ofNat];exact Nat.mod_eq_of_lt h
theorem Zv3{k:IntKind}{x:Int}(h:Wd k x)(h0:0≤x):x.toNat < 2 ^ k.bits:=by
 obtain⟨h1,h2⟩:=h;cases k <;> simp only[IntKind.min,IntKind.max,IntKind.signed,IntKind.bits] at* <;> simp at* <;> omega
theorem Zsd{op:BinOp}{k:IntKind}{x y:Int}{r:Nat}(hr:ZrN op x.toNat y.toNat=some r)(hx:0≤x)(kx:Wd k x)(hy:0≤y)(ky:Wd k y)(kr:Wd k (r:Int)):
 bits op k x y=(r:Int):=by
 obtain⟨a,rfl⟩:=Int.eq_ofNat_of_zero_le hx;obtain⟨b,rfl⟩:=Int.eq_ofNat_of_zero_le hy;have ha:=Zv3 kx hx;have hb:=Zv3 ky hy;simp only[Int.toNat_natCast] at ha hb hr;unfold ZrN at hr;split at hr
 ·cases hr;have e:bits .and k (a:Int) (b:Int)=k.wrap ((ybw k.bits (a:Int)&&&ybw k.bits (b:Int)).toNat:Int):=rfl;rw[e,BitVec.toNat_and,Zdd _ _ ha,Zdd _ _ hb];exact V0 kr
 ·cases hr;have e:bits .or k (a:Int) (b:Int)=k.wrap ((ybw k.bits (a:Int)|||ybw k.bits (b:Int)).toNat:Int):=rfl;rw[e,BitVec.toNat_or,Zdd _ _ ha,Zdd _ _ hb];exact V0 kr
 ·cases hr;have e:bits .xor k (a:Int) (b:Int)=k.wrap ((ybw k.bits (a:Int)^^^ybw k.bits (b:Int)).toNat:Int):=rfl;rw[e,BitVec.toNat_xor,Zdd _ _ ha,Zdd _ _ hb];exact V0 kr
 ·cases hr
theorem ZzJ{P:yg}{op:BinOp}{k:IntKind}{x y:Int}{hs hs':List Hint}{C:List Prop}{d:Dv}(h:Yq op k x y hs=some (C,d,hs'))(hc:AllP C)(σ:Sg)(t:yb):
 ∃v,(binOp op t (.int k x) (.int k y)).run P σ.w=.ok v σ.w∧repDV σ d v:=by
 unfold Yq at h;split at h
 ·exact⟨_,by rw[binOp_add];rfl,ZbE h hc σ⟩
 ·exact⟨_,by rw[binOp_sub];rfl,ZbE h hc σ⟩
 ·exact⟨_,by rw[binOp_mul];rfl,ZbE h hc σ⟩
 ·split at h
  ·simp only[yj,yl] at h;obtain⟨rfl,rfl,rfl⟩:=h;obtain⟨h1,h2,h3,_⟩:=hc;have hy:y≠0:=by omega
   refine⟨_, ?_,Zs k (x / y)⟩;rw[binOp_quo];simp only[Op.intDiv,hy,if_false];rw[Int.tdiv_eq_ediv_of_nonneg h1,V0 h3];rfl
  ·simp only[yj,yl] at h;obtain⟨rfl,rfl,rfl⟩:=h;have hy:y≠0:=hc.1;refine⟨_, ?_,Zs k _⟩;rw[binOp_quo];simp only[Op.intDiv,hy,if_false];rfl
  ·cases h
 ·split at h
  ·simp only[yj,yl] at h;obtain⟨rfl,rfl,rfl⟩:=h;obtain⟨h1,h2,_⟩:=hc;have hy:y≠0:=by omega
   refine⟨_, ?_,Zs k (x % y)⟩;rw[binOp_rem];simp only[Op.intDiv,hy,if_false];rw[Int.tmod_eq_emod_of_nonneg h1];rfl
  ·simp only[yj,yl] at h;obtain⟨rfl,rfl,rfl⟩:=h;have hy:y≠0:=hc.1;refine⟨_, ?_,Zs k _⟩;rw[binOp_rem];simp only[Op.intDiv,hy,if_false];rfl
  ·cases h
 ·split at h
  ·simp only[yp,yl] at h;obtain⟨r,hr,rfl,rfl,rfl⟩:=h;obtain⟨h1,h2,h3,h4,h5,_⟩:=hc;refine⟨_, ?_,Zs k _⟩;rw[binOp_and,intBits_and,Zsd hr h1 h2 h3 h4 h5];rfl
  ·simp only[yj,yl] at h;obtain⟨rfl,rfl,rfl⟩:=h;exact⟨_,by rw[binOp_and,intBits_and];rfl,Zs k _⟩
  ·cases h
 ·split at h
  ·simp only[yp,yl] at h;obtain⟨r,hr,rfl,rfl,rfl⟩:=h;obtain⟨h1,h2,h3,h4,h5,_⟩:=hc;refine⟨_, ?_,Zs k _⟩;rw[binOp_or,intBits_or,Zsd hr h1 h2 h3 h4 h5];rfl
  ·simp only[yj,yl] at h;obtain⟨rfl,rfl,rfl⟩:=h;exact⟨_,by rw[binOp_or,intBits_or];rfl,Zs k _⟩
  ·cases h
 ·split at h
  ·simp only[yp,yl] at h;obtain⟨r,hr,rfl,rfl,rfl⟩:=h;obtain⟨h1,h2,h3,h4,h5,_⟩:=hc;refine⟨_, ?_,Zs k _⟩;rw[binOp_xor,intBits_xor,Zsd hr h1 h2 h3 h4 h5];rfl
  ·simp only[yj,yl] at h;obtain⟨rfl,rfl,rfl⟩:=h;exact⟨_,by rw[binOp_xor,intBits_xor];rfl,Zs k _⟩
  ·cases h
 ·split at h
  ·simp only[yj,yl] at h;obtain⟨rfl,rfl,rfl⟩:=h;exact⟨_,by rw[binOp_andNot,intBits_andNot];rfl,Zs k _⟩
  ·cases h
 all_goals first
  |(cases h;done)
  |(simp only[yj,yl] at h
    obtain⟨rfl,rfl,rfl⟩:=h
    first
     |exact⟨_,by rw[binOp_eql];rfl,Z6 _⟩
     |exact⟨_,by rw[binOp_neq];rfl,Z6 _⟩
     |exact⟨_,by rw[binOp_lss];rfl,Z6 _⟩
     |exact⟨_,by rw[binOp_leq];rfl,Z6 _⟩
     |exact⟨_,by rw[binOp_gtr];rfl,Z6 _⟩
     |exact⟨_,by rw[binOp_geq];rfl,Z6 _⟩)
theorem ZuY{P:yg}{op:BinOp}{k yk:IntKind}{x y:Int}{hs hs':List Hint}{C:List Prop}{d:Dv}(h:Xw op k x y hs=some (C,d,hs'))(hc:AllP C)(σ:Sg):
 ∃v,(Op.shift op k x yk y).run P σ.w=.ok v σ.w∧repDV σ d v:=by
 unfold Xw at h;split at h
 ·simp only[yj,yl] at h;obtain⟨rfl,rfl,rfl⟩:=h;obtain⟨h1,h2,h3,_⟩:=hc;refine⟨_, ?_,Zs k _⟩;have hn:¬y < 0:=by omega
  simp only[Op.shift,hn,if_false];rw[yav (Nat.le_of_lt h2),V0 h3];rfl
 ·simp only[yj,yl] at h;obtain⟨rfl,rfl,rfl⟩:=h;refine⟨_, ?_,Zs k _⟩;have hn:¬y < 0:=by have:0≤y:=hc.1;omega
  simp only[Op.shift,hn,if_false];rfl
 ·simp only[yj,yl] at h;obtain⟨rfl,rfl,rfl⟩:=h;obtain⟨h1,h2,_⟩:=hc;refine⟨_, ?_,Zs k _⟩;have hn:¬y < 0:=by omega
  simp only[Op.shift,hn,if_false];rw[yav h2,Int.fdiv_eq_ediv_of_nonneg _ (by exact Int.le_of_lt (Int.pow_pos (by decide)))];rfl
 ·simp only[yj,yl] at h;obtain⟨rfl,rfl,rfl⟩:=h;refine⟨_, ?_,Zs k _⟩;have hn:¬y < 0:=by have:0≤y:=hc.1;omega
  simp only[Op.shift,hn,if_false];rfl
 ·cases h
mutual
theorem Zse{w:yy}{S:Nat→Nat→Prop}:∀(x:Pl)(vs:List yh),repC w S x vs→∀u,u∈vs→u.oneCell'=true
 |.int _ _,_,h,u,hu=>by simp only[repC] at h;subst h;cases yao.1 hu;rfl
 |.bool _,_,h,u,hu=>by simp only[repC] at h;subst h;cases yao.1 hu;rfl
 |.str _,_,h,u,hu=>by simp only[repC] at h;subst h;cases yao.1 hu;rfl
 |.ptr0,_,h,u,hu=>by simp only[repC] at h;subst h;cases yao.1 hu;rfl
 |.fn0,_,h,u,hu=>by simp only[repC] at h;subst h;cases yao.1 hu;rfl
 |.if0,_,h,u,hu=>by simp only[repC] at h;subst h;cases yao.1 hu;rfl
 |.map0,_,h,u,hu=>by simp only[repC] at h;subst h;cases yao.1 hu;rfl
 |.fnv _,_,h,u,hu=>by simp only[repC] at h;subst h;cases yao.1 hu;rfl
 |.agg xs,vs,h,u,hu=>by
  simp only[repC] at h
  exact repCs_one xs vs h u hu
 |.arr n s xs,vs,h,u,hu=>by
  simp only[repC] at h
  exact repCs_one xs vs h.2.2 u hu
 |.sl _ _ _,_,h,u,hu=>by
  simp only[repC] at h;obtain⟨_,A,c,h,_⟩:=h
  subst h;cases yao.1 hu;rfl
 |.iface _ _,_,h,u,hu=>by
  simp only[repC] at h;obtain⟨v,h,_⟩:=h;subst h;cases yao.1 hu;rfl
theorem repCs_one{w:yy}{S:Nat→Nat→Prop}:∀(xs:List Pl)(vs:List yh),repCs w S xs vs→∀u,u∈vs→u.oneCell'=true
 |[],_,h,u,hu=>by simp only[repCs] at h;subst h;cases hu
 |x::xs,vs,h,u,hu=>by
  simp only[repCs] at h;obtain⟨us,us',rfl,h1,h2⟩:=h;rcases List.mem_append.1 hu with h3|h3
  ·exact Zse x us h1 u h3
  ·exact repCs_one xs us' h2 u h3
end
mutual
theorem YZ{σ:Sg}:∀(d:Dv)(vs:List yh),repD σ d vs→vs.length=d.size
 |.p x,vs,h=>by simp only[repD] at h;exact Xe x vs h
 |.elem _,_,h=>by simp only[repD] at h;obtain⟨b,o,us,rfl,_⟩:=h;rfl
 |.ref _ _ _,_,h=>by simp only[repD] at h;obtain⟨b,_,_,rfl⟩:=h;rfl
 |.own _ _ _ _,_,h=>by simp only[repD] at h;obtain⟨_,A,c,rfl,_⟩:=h;rfl
 |.view _ _ _ _ _ _,_,h=>by simp only[repD] at h;obtain⟨b,c,a,_,_,rfl,_⟩:=h;rfl
 |.agg xs,vs,h=>by simp only[repD] at h;simpa[Dv.size] using repDs_size xs vs h
 |.arr n s xs,vs,h=>by
  simp only[repD] at h;obtain⟨h1,h2,h3⟩:=h;rw[repDs_size xs vs h3,Dv.size, ←h1]
  exact dsizes_all h2
 |.fn _ _,_,h=>by simp only[repD] at h;obtain⟨fs,cs,rfl,_⟩:=h;rfl
 |.iface _ _,_,h=>by simp only[repD] at h;obtain⟨cs,rfl,_⟩:=h;rfl
 |.tup _,_,h=>by simp only[repD] at h;obtain⟨cs,rfl,_⟩:=h;rfl
 |.mp _,_,h=>by simp only[repD] at h;obtain⟨b,_,_,rfl⟩:=h;rfl
 |.rv _ _ _ _ _,_,h=>by simp only[repD] at h;obtain⟨A,c,rfl,_⟩:=h;rfl
 |.rref _ _ _ _,_,h=>by simp only[repD] at h;obtain⟨b,o,rfl,_⟩:=h;rfl
 |.junk,_,h=>by simpa[repD,Dv.size] using h
theorem repDs_size{σ:Sg}:∀(ds:List Dv)(vs:List yh),repDs σ ds vs→vs.length=Dv.sizes ds
 |[],_,h=>by simp only[repDs] at h;subst h;rfl
 |x::xs,vs,h=>by
  simp only[repDs] at h;obtain⟨us,us',rfl,h1,h2⟩:=h;rw[yr,YZ x us h1,repDs_size xs us' h2,Dv.sizes]
theorem dsizes_all{s:Nat}:∀{xs:List Dv},(∀x,x∈xs→x.size=s)→Dv.sizes xs=xs.length*s
 |[],_=>by simp[Dv.sizes]
 |x::xs,h=>by
  rw[Dv.sizes,h x (yap ..),dsizes_all (λy hy=>h y (yau _ hy)),yai,yat];omega
end
theorem QB{w:yy}{S:Nat→Nat→Prop}{xs:List Pl}{us:List yh}{i:Nat}{y:Pl}(h:repCs w S xs us)(hy:xs[i]? =some y):
 ∃a b c,us=a++(b++c)∧a.length=Pl.sizes (xs.take i)∧repC w S y b∧b.length=y.size∧repCs w S (xs.take i) a∧repCs w S (xs.drop (i+1)) c:=by
 have hi:i < xs.length:=(yo.1 hy).1
 have hx:xs=xs.take i++(y::xs.drop (i+1)):=by
  rw[←(yo.1 hy).2,List.getElem_cons_drop,ybf]
 rw[hx] at h;obtain⟨a,r,rfl,h1,h2⟩:=Z0 h;simp only[repCs] at h2;obtain⟨b,c,rfl,h3,h4⟩:=h2;exact⟨a,b,c,rfl,repCs_size _ _ h1,h3,Xe _ _ h3,h1,h4⟩
theorem QC{σ:Sg}{xs ys:List Dv}{us vs:List yh}(h:repDs σ xs us)(k:repDs σ ys vs):repDs σ (xs++ys) (us++vs):=by
 induction xs generalizing us with
 |nil=>simp only[repDs] at h;subst h;simpa using k
 |cons x xs ih=>
  simp only[repDs] at h;obtain⟨a,b,rfl,h1,h2⟩:=h;simp only[yaa,repDs,yak];exact⟨a,b++vs,rfl,h1,ih h2⟩
theorem ZzK{σ:Sg}{xs ys:List Dv}{us:List yh}(h:repDs σ (xs++ys) us):∃a b,us=a++b∧repDs σ xs a∧repDs σ ys b:=by
 induction xs generalizing us with
 |nil=>exact⟨[],us,rfl,by simp[repDs],h⟩
 |cons x xs ih=>
  simp only[yaa,repDs] at h;obtain⟨a,b,rfl,h1,h2⟩:=h;obtain⟨c,d,rfl,h3,h4⟩:=ih h2;exact⟨a++c,d,by simp,by simp only[repDs];exact⟨a,c,rfl,h1,h3⟩,h4⟩
theorem Zdn{σ:Sg}{xs:List Dv}{us:List yh}{i:Nat}{y:Dv}(h:repDs σ xs us)(hy:xs[i]? =some y):
 ∃a b c,us=a++(b++c)∧a.length=Dv.sizes (xs.take i)∧repD σ y b∧b.length=y.size∧repDs σ (xs.take i) a∧repDs σ (xs.drop (i+1)) c:=by
 have hx:xs=xs.take i++(y::xs.drop (i+1)):=by
  rw[←(yo.1 hy).2,List.getElem_cons_drop,ybf]
 rw[hx] at h;obtain⟨a,r,rfl,h1,h2⟩:=ZzK h;simp only[repDs] at h2;obtain⟨b,c,rfl,h3,h4⟩:=h2;exact⟨a,b,c,rfl,repDs_size _ _ h1,h3,YZ _ _ h3,h1,h4⟩
theorem ZcA{σ:Sg}:∀{xs:List Pl}{us:List yh},repDs σ (xs.map .p) us↔repCs σ.w σ.stab xs us
 |[],us=>by simp[repDs,repCs]
 |x::xs,us=>by
  simp only[yad,repDs,repCs,repD];constructor
  ·rintro⟨a,b,rfl,h1,h2⟩;exact⟨a,b,rfl,h1,ZcA.1 h2⟩
  ·rintro⟨a,b,rfl,h1,h2⟩;exact⟨a,b,rfl,h1,ZcA.2 h2⟩
theorem Zsf{P:yg}{t:yb}(h:(P.underlying t).isSome=true)(w:yy):(isAgg t).run P w=.ok (Y5 P t) w:=by
 cases hu:P.underlying t with
 |none=>simp[hu] at h
 |some d=>
  unfold isAgg Y5;rw[Sem.run_bind,run_underlying hu w];cases d <;> simp[hu]
theorem ZQ{P:yg}{t:yb}(h:(P.info? t).isSome=true)(w:yy):(sizeOf t).run P w=.ok (P.cellsOf t) w:=by
 cases hi:P.info? t with
 |none=>simp[hi] at h
 |some i=>simp[sizeOf,typeInfo,hi,Program.cellsOf]
theorem QD{P:yg}{σ:Sg}{t:yb}{d:Dv}{cs:Array yh}{a b c:List yh}(hcs:cs.toList=a++(b++c))(hr:repD σ d b)(hs:P.cellsOf t=d.size)(hi:(P.info? t).isSome=true)
 (hu:(P.underlying t).isSome=true) (ha:Y5 P t=d.isAgg) (hn:d.size≠0):∃v,(part t cs a.length).run P σ.w=.ok v σ.w∧repDV σ d v:=by
 have hb:b.length=d.size:=YZ _ _ hr;unfold part;simp only[Sem.run_bind,Zsf hu,Result.andThen_ok]
 cases hagg:d.isAgg with
 |true=>
  rw[ha,hagg];simp only[if_true,Sem.run_bind,ZQ hi,Result.andThen_ok,Sem.run_pure];refine⟨_,rfl, ?_⟩;rw[ZZ hagg];refine⟨_,rfl, ?_⟩
  have:(cs.extract a.length (a.length+P.cellsOf t)).toList=b:=by
   rw[Array.toList_extract,hcs,hs, ←hb,List.extract_eq_take_drop];simp
  rw[this]
  exact hr
 |false=>
  rw[ha,hagg];simp only[Bool.false_eq_true,if_false]
  have h1:d.size=1:=by
   cases d with
   |p x=>cases x <;> first|rfl|(simp[Dv.isAgg,Pl.isAgg] at hagg)
   |agg _=>simp[Dv.isAgg] at hagg
   |arr _ _ _=>simp[Dv.isAgg] at hagg
   |_=>rfl
  rw[h1] at hb
  obtain⟨v,rfl⟩:∃v,b=[v]:=by
   match b,hb with
   |[v],_=>exact⟨v,rfl⟩
  have hv:cs[a.length]? =some v:=by
   rw[←ybr,hcs];simp
  rw[hv];exact⟨v,rfl,(Ze hagg).2 hr⟩
theorem ZuZ{P:yg}{σ:Sg}{t:yb}{x d:Dv}{i:Nat}{v:yh}(h:VU P t x i=some d)(hr:repDV σ x v):
 ∃u,(Instr.field t v i).run P σ.w=.ok u σ.w∧repDV σ d u:=by
 unfold VU at h;split at h
 ·rename_i fs xs hu;split at h
  ·rename_i y hy;split at h
   ·rename_i hok;cases h;unfold ZeG at hok;split at hok
    ·rename_i f hf;simp only[yi,beq_iff_eq,bne_iff_ne] at hok;obtain⟨⟨⟨⟨⟨h1,h2⟩,h3⟩,h4⟩,h5⟩,h6⟩:=hok;rw[ZZ rfl] at hr;obtain⟨cs,rfl,hr⟩:=hr;simp only[repD,repC] at hr;obtain⟨a,b,c,e,ha,hb,_⟩:=QB hr hy;obtain⟨u,hu1,hu2⟩:=QD (P:=P) (σ:=σ) (t:=f.type) (d:=.p y) e (by simpa[repD] using hb) h2 h3 h5 h4 h6;refine⟨u, ?_,hu2⟩;rw[ha, ←h1] at hu1;simp[Instr.field,run_underlying hu,hf,asAgg,hu1]
    ·cases hok
   ·cases h
  ·cases h
 ·rename_i fs xs hu;split at h
  ·rename_i y hy;split at h
   ·rename_i hok;cases h;unfold ZeG at hok;split at hok
    ·rename_i f hf;simp only[yi,beq_iff_eq,bne_iff_ne] at hok;obtain⟨⟨⟨⟨⟨h1,h2⟩,h3⟩,h4⟩,h5⟩,h6⟩:=hok;rw[ZZ rfl] at hr;obtain⟨cs,rfl,hr⟩:=hr;simp only[repD] at hr;obtain⟨a,b,c,e,ha,hb,_⟩:=Zdn hr hy;obtain⟨u,hu1,hu2⟩:=QD (P:=P) (σ:=σ) (t:=f.type) (d:=d) e hb h2 h3 h5 h4 h6;refine⟨u, ?_,hu2⟩;rw[ha, ←h1] at hu1;simp[Instr.field,run_underlying hu,hf,asAgg,hu1]
    ·cases hok
   ·cases h
  ·cases h
 ·cases h
theorem Addr.add_mk(b o n:Nat):(⟨b,o,none⟩:Addr).add n=⟨b,o+n,none⟩:=Addr.add_lit b o n
theorem ZmT{w:yy}{S:Nat→Nat→Prop}{s:Nat}{xs:List Pl}{us:List yh}{b o i:Nat}{y:Pl}(hs:allSz s xs)(hr:repCs w S xs us)(hc:Xr w S b o us)(hy:xs[i]? =some y):
 ∃uy,repC w S y uy∧Xr w S b (o+i*s) uy:=by
 obtain⟨a,uy,c,rfl,ha,hb,_⟩:=QB hr hy;have hi:i < xs.length:=(yo.1 hy).1
 have hl:a.length=i*s:=by
  rw[ha,sizes_all (Wg hs i),yae,yav (Nat.le_of_lt hi)]
 refine⟨uy,hb, ?_⟩;have h2:=(Xr.append (Xr.append hc).2).1
 rwa [hl] at h2
theorem ZeI{P:yg}{σ:Sg}{t:yb}{d:Dv}{b o:Nat}{us:List yh}(hr:repD σ d us)(hc:∀(j:Nat)(u:yh),us[j]? =some u→σ.w.cell? ⟨b,o+j,none⟩=some u)(hs:P.cellsOf t=d.size)
 (hi:(P.info? t).isSome=true) (hu:(P.underlying t).isSome=true) (ha:Y5 P t=d.isAgg):∃v,(loadVar t ⟨b,o,none⟩).run P σ.w=.ok v σ.w∧repDV σ d v:=by
 have hb:us.length=d.size:=YZ _ _ hr;unfold loadVar;simp only[Sem.run_bind,Zsf hu,Result.andThen_ok]
 cases hagg:d.isAgg with
 |true=>
  rw[ha,hagg];have hl:=run_loadCells_list (P:=P) σ.w ⟨b,o,none⟩ us (λj u hu=>by rw[Addr.add_mk];exact hc j u hu);rw[hb, ←hs] at hl;simp only[if_true,Sem.run_bind,ZQ hi,Result.andThen_ok,hl,Sem.run_pure]
  exact⟨_,rfl,(ZZ hagg).2 ⟨_,rfl,by simpa using hr⟩⟩
 |false=>
  rw[ha,hagg];simp only[Bool.false_eq_true,if_false]
  have h1:d.size=1:=by
   cases d with
   |p x=>cases x <;> first|rfl|(simp[Dv.isAgg,Pl.isAgg] at hagg)
   |agg _=>simp[Dv.isAgg] at hagg
   |arr _ _ _=>simp[Dv.isAgg] at hagg
   |_=>rfl
  rw[h1] at hb
  obtain⟨v,rfl⟩:∃v,us=[v]:=by
   match us,hb with
   |[v],_=>exact⟨v,rfl⟩
  have:=hc 0 v rfl;simp only[Nat.add_zero] at this;rw[run_load,this];exact⟨v,rfl,(Ze hagg).2 hr⟩
mutual
theorem ZcB{f:Nat→Option Nat}:∀(d d':Dv),d.rn f=some d'→d'.size=d.size∧d'.isAgg=d.isAgg
 |.p x,d',h=>by simp only[Dv.rn,yj] at h;subst h;exact⟨rfl,rfl⟩
 |.elem x,d',h=>by simp only[Dv.rn,yj] at h;subst h;exact⟨rfl,rfl⟩
 |.ref id off path,d',h=>by simp only[Dv.rn,yp] at h;obtain⟨i,_,rfl⟩:=h;exact⟨rfl,rfl⟩
 |.own id nn s xs,d',h=>by simp only[Dv.rn,yp] at h;obtain⟨i,_,rfl⟩:=h;exact⟨rfl,rfl⟩
 |.view id off path s lo n,d',h=>by simp only[Dv.rn,yp] at h;obtain⟨i,_,rfl⟩:=h;exact⟨rfl,rfl⟩
 |.agg xs,d',h=>by
  simp only[Dv.rn,yp] at h;obtain⟨ys,h1,rfl⟩:=h
  exact⟨by simp only[Dv.size];exact rns_sizes xs ys h1,rfl⟩
 |.arr n s xs,d',h=>by simp only[Dv.rn,yp] at h;obtain⟨ys,_,rfl⟩:=h;exact⟨rfl,rfl⟩
 |.fn g cap,d',h=>by simp only[Dv.rn,yp] at h;obtain⟨ys,_,rfl⟩:=h;exact⟨rfl,rfl⟩
 |.iface t x,d',h=>by simp only[Dv.rn,yp] at h;obtain⟨ys,_,rfl⟩:=h;exact⟨rfl,rfl⟩
 |.tup xs,d',h=>by simp only[Dv.rn,yp] at h;obtain⟨ys,_,rfl⟩:=h;exact⟨rfl,rfl⟩
 |.mp id,d',h=>by simp only[Dv.rn,yp] at h;obtain⟨ys,_,rfl⟩:=h;exact⟨rfl,rfl⟩
 |.rv id _ _ _ _,d',h=>by simp only[Dv.rn,yp] at h;obtain⟨ys,_,rfl⟩:=h;exact⟨rfl,rfl⟩
 |.rref id _ _ _,d',h=>by simp only[Dv.rn,yp] at h;obtain⟨ys,_,rfl⟩:=h;exact⟨rfl,rfl⟩
 |.junk,d',h=>by simp only[Dv.rn,yj] at h;subst h;exact⟨rfl,rfl⟩
theorem rns_sizes{f:Nat→Option Nat}:∀(ds ds':List Dv),Dv.rns f ds=some ds'→Dv.sizes ds'=Dv.sizes ds
 |[],ds',h=>by simp only[Dv.rns,yj] at h;subst h;rfl
 |x::r,ds',h=>by
  simp only[Dv.rns] at h;split at h
  ·rename_i y ys h1 h2;cases h;simp only[Dv.sizes];rw[(ZcB x y h1).1,rns_sizes r ys h2]
  ·cases h
end
theorem ZlK{f:Nat→Option Nat}:∀{ds ds':List Dv},Dv.rns f ds=some ds'→ds'.length=ds.length
 |[],ds',h=>by simp only[Dv.rns,yj] at h;subst h;rfl
 |x::r,ds',h=>by
  simp only[Dv.rns] at h;split at h
  ·rename_i y ys h1 h2;cases h;simp[ZlK h2]
  ·cases h
theorem ZDM{f:Nat→Option Nat}{s:Nat}:∀{ds ds':List Dv},Dv.rns f ds=some ds'→(∀x,x∈ds→x.size=s)→∀x,x∈ds'→x.size=s
 |[],ds',h,_=>by simp only[Dv.rns,yj] at h;subst h;intro x hx;cases hx
 |x::r,ds',h,ha=>by
  simp only[Dv.rns] at h;split at h
  ·rename_i y ys h1 h2;cases h;intro z hz
   cases hz with
   |head=>rw[(ZcB x y h1).1];exact ha x (yap ..)
   |tail _ hz=>exact ZDM h2 (λw hw=>ha w (yau _ hw)) z hz
  ·cases h
structure Rn(f:Nat→Option Nat)(σ σ':Sg):Prop where
 w:σ'.w=σ.w
 stab:∀(b o:Nat)(v:yh),σ.w.cell? ⟨b,o,none⟩=some v→σ.stab b o→σ'.stab b o
 m:∀(id id':Nat),f id=some id'→∀(a:Option Nat),σ.m[id]? =some a→σ'.m[id']? =some a
 H:∀(id id':Nat),f id=some id'→∀(e:Ent),σ.H[id]? =some e→∃e',σ'.H[id']? =some e'∧e.rn f=some e'
theorem Rn.cells{f:Nat→Option Nat}{σ σ':Sg}(h:Rn f σ σ'):∀(b o:Nat)(v:yh),σ.w.cell? ⟨b,o,none⟩=some v→σ.stab b o→σ'.w.cell? ⟨b,o,none⟩=some v∧σ'.stab b o:=
 λb o v h1 h2=>⟨by rw[h.w];exact h1,h.stab b o v h1 h2⟩
theorem Rn.var{f:Nat→Option Nat}{σ σ':Sg}(h:Rn f σ σ'){id id':Nat}(hf:f id=some id')(hv:∃d st,σ.H[id]? =some (.var d st)):∃d st,σ'.H[id']? =some (.var d st):=by
 obtain⟨d,st,hv⟩:=hv;obtain⟨e',h1,h2⟩:=h.H id id' hf _ hv;simp only[Ent.rn,yp] at h2;obtain⟨d',_,rfl⟩:=h2;exact⟨d',st,h1⟩
theorem Rn.map{f:Nat→Option Nat}{σ σ':Sg}(h:Rn f σ σ'){id id':Nat}(hf:f id=some id')(hv:∃t kvs,σ.H[id]? =some (.map t kvs)):∃t kvs,σ'.H[id']? =some (.map t kvs):=by
 obtain⟨d,st,hv⟩:=hv;obtain⟨e',h1,h2⟩:=h.H id id' hf _ hv;simp only[Ent.rn,yj] at h2;subst h2;exact⟨d,st,h1⟩
theorem Rn.front{f:Nat→Option Nat}{σ σ':Sg}(h:Rn f σ σ'){id id' s len c:Nat}{A:Option Addr}(hf:f id=some id')(hv:ownFront σ id s len A c):ownFront σ' id' s len A c:=by
 obtain⟨e,ys,h1,h2,h3⟩:=hv;obtain⟨e',h4,h5⟩:=h.H id id' hf _ h1;simp only[Ent.rn,yj] at h5;subst h5;refine⟨e,ys,h4,h2,λhl=> ?_⟩;rcases h3 hl with⟨h6,h7⟩|⟨b,cur,h6,h7,h8,h9⟩
 ·exact .inl ⟨h.m _ _ hf _ h6,h7⟩
 ·exact .inr ⟨b,cur,h.m _ _ hf _ h6,h7,by rw[h.w];exact h8,h9⟩
theorem Rn.row{f:Nat→Option Nat}{σ σ':Sg}(h:Rn f σ σ'){id id' v s:Nat}{st:Bool}{e:yb}{d:Dv}(hf:f id=some id')(hv:σ.H[id]? =some (.row v s st e d)):∃d',σ'.H[id']? =some (.row v s st e d'):=by
 obtain⟨e',h1,h2⟩:=h.H id id' hf _ hv;simp only[Ent.rn,yp] at h2;obtain⟨d',_,rfl⟩:=h2;exact⟨d',h1⟩
theorem Rn.rowAt{f:Nat→Option Nat}{σ σ':Sg}(h:Rn f σ σ'){id id' v s lo c:Nat}{A:Option Addr}(hf:f id=some id')(hv:rowAt σ id v s lo A c):rowAt σ' id' v s lo A c:=by
 obtain⟨v',s',st,e,d,h1,h2,h3⟩:=hv;obtain⟨d',h4⟩:=h.row hf h1;refine⟨v',s',st,e,d',h4,h2,λhv=> ?_⟩;obtain⟨h5,h6⟩:=h3 hv;refine⟨h5, ?_⟩;rcases h6 with⟨h7,h8⟩|⟨b,cur,h7,h8,h9⟩
 ·exact .inl ⟨h.m _ _ hf _ h7,h8⟩
 ·exact .inr ⟨b,cur,h.m _ _ hf _ h7,by rw[h.w];exact h8,h9⟩
theorem Rn.rowIs{f:Nat→Option Nat}{σ σ':Sg}(h:Rn f σ σ'){id id' v b o off:Nat}(hf:f id=some id')(hv:rowIs σ id v b o off):rowIs σ' id' v b o off:=by
 obtain⟨v',s',st,e,d,h1,h2,h3⟩:=hv;obtain⟨d',h4⟩:=h.row hf h1;exact⟨v',s',st,e,d',h4,h2,λhv=>⟨h.m _ _ hf _ (h3 hv).1,(h3 hv).2⟩⟩
mutual
theorem ZcC{f:Nat→Option Nat}{σ σ':Sg}(h:Rn f σ σ'):∀(d d':Dv)(vs:List yh),d.rn f=some d'→repD σ d vs→repD σ' d' vs
 |.p x,d',vs,hd,hr=>by
  simp only[Dv.rn,yj] at hd;subst hd;simp only[repD] at hr ⊢
  exact WB h.cells x vs hr
 |.elem x,d',vs,hd,hr=>by
  simp only[Dv.rn,yj] at hd;subst hd;simp only[repD] at hr ⊢;obtain⟨b,o,us,h1,h2,h3⟩:=hr
  exact⟨b,o,us,h1,WB h.cells x us h2,h3.mono h.cells⟩
 |.ref id off path,d',vs,hd,hr=>by
  simp only[Dv.rn,yp] at hd;obtain⟨i,hf,rfl⟩:=hd;simp only[repD] at hr ⊢;obtain⟨b,h1,h2,h3⟩:=hr
  exact⟨b,h.m _ _ hf _ h1,h.var hf h2,h3⟩
 |.own id nn s xs,d',vs,hd,hr=>by
  simp only[Dv.rn,yp] at hd;obtain⟨i,hf,rfl⟩:=hd;simp only[repD] at hr ⊢;obtain⟨h1,A,c,h2,h3,h4,h5,h6,h7,h8⟩:=hr;refine⟨h1,A,c,h2,h3,h4,h5,h6,λhne=> ?_,h.front hf h8⟩;obtain⟨b,o,us,e1,e2,e3⟩:=h7 hne
  exact⟨b,o,us,e1,repCs_mono h.cells xs us e2,e3.mono h.cells⟩
 |.view id off path s lo n,d',vs,hd,hr=>by
  simp only[Dv.rn,yp] at hd;obtain⟨i,hf,rfl⟩:=hd;simp only[repD] at hr ⊢;obtain⟨b,c,a,h1,h2,h3⟩:=hr
  exact⟨b,c,a,h.m _ _ hf _ h1,h.var hf h2,h3⟩
 |.agg xs,d',vs,hd,hr=>by
  simp only[Dv.rn,yp] at hd;obtain⟨ys,hf,rfl⟩:=hd;simp only[repD] at hr ⊢
  exact repDs_rn h xs ys vs hf hr
 |.arr n s xs,d',vs,hd,hr=>by
  simp only[Dv.rn,yp] at hd;obtain⟨ys,hf,rfl⟩:=hd;simp only[repD] at hr ⊢
  exact⟨by rw[ZlK hf];exact hr.1,ZDM hf hr.2.1,repDs_rn h xs ys vs hf hr.2.2⟩
 |.fn g cap,d',vs,hd,hr=>by
  simp only[Dv.rn,yp] at hd;obtain⟨ys,hf,rfl⟩:=hd;simp only[repD] at hr ⊢;obtain⟨fs,cs,h1,h0,h2⟩:=hr
  exact⟨fs,cs,h1,h0,repVs_rn h cap ys _ hf h2⟩
 |.iface t x,d',vs,hd,hr=>by
  simp only[Dv.rn,yp] at hd;obtain⟨y,hf,rfl⟩:=hd;simp only[repD] at hr ⊢;obtain⟨v,h1,h2,h3⟩:=hr;refine⟨v,h1,λha=> ?_,λha=>ZcC h x y _ hf (h3 (by rw[←(ZcB x y hf).2];exact ha))⟩;obtain⟨cs,e1,e2⟩:=h2 (by rw[←(ZcB x y hf).2];exact ha)
  exact⟨cs,e1,ZcC h x y _ hf e2⟩
 |.tup xs,d',vs,hd,hr=>by
  simp only[Dv.rn,yp] at hd;obtain⟨ys,hf,rfl⟩:=hd;simp only[repD] at hr ⊢;obtain⟨cs,h1,h2⟩:=hr
  exact⟨cs,h1,repVs_rn h xs ys _ hf h2⟩
 |.mp id,d',vs,hd,hr=>by
  simp only[Dv.rn,yp] at hd;obtain⟨i,hf,rfl⟩:=hd;simp only[repD] at hr ⊢;obtain⟨b,h1,h2,h3⟩:=hr
  exact⟨b,h.m _ _ hf _ h1,h.map hf h2,h3⟩
 |.rv id v s lo n,d',vs,hd,hr=>by
  simp only[Dv.rn,yp] at hd;obtain⟨i,hf,rfl⟩:=hd;simp only[repD] at hr ⊢;obtain⟨A,c,h1,h2,h3,h4,h5,h6⟩:=hr
  exact⟨A,c,h1,h2,h3,h4,h5,h.rowAt hf h6⟩
 |.rref id v off path,d',vs,hd,hr=>by
  simp only[Dv.rn,yp] at hd;obtain⟨i,hf,rfl⟩:=hd;simp only[repD] at hr ⊢;obtain⟨b,o,h1,h2⟩:=hr
  exact⟨b,o,h1,h.rowIs hf h2⟩
 |.junk,d',vs,hd,hr=>by
  simp only[Dv.rn,yj] at hd;subst hd;simpa[repD] using hr
theorem repDs_rn{f:Nat→Option Nat}{σ σ':Sg}(h:Rn f σ σ'):∀(ds ds':List Dv)(vs:List yh),Dv.rns f ds=some ds'→repDs σ ds vs→repDs σ' ds' vs
 |[],ds',vs,hd,hr=>by
  simp only[Dv.rns,yj] at hd;subst hd
  simpa[repDs] using hr
 |x::xs,ds',vs,hd,hr=>by
  simp only[Dv.rns] at hd;split at hd
  ·rename_i y ys h1 h2;cases hd;simp only[repDs] at hr ⊢;obtain⟨us,us',h3,h4,h5⟩:=hr;exact⟨us,us',h3,ZcC h x y us h1 h4,repDs_rn h xs ys us' h2 h5⟩
  ·cases hd
theorem repVs_rn{f:Nat→Option Nat}{σ σ':Sg}(h:Rn f σ σ'):∀(ds ds':List Dv)(vs:List yh),Dv.rns f ds=some ds'→repVs σ ds vs→repVs σ' ds' vs
 |[],ds',vs,hd,hr=>by
  simp only[Dv.rns,yj] at hd;subst hd
  simpa[repVs] using hr
 |x::xs,ds',vs,hd,hr=>by
  simp only[Dv.rns] at hd;split at hd
  ·rename_i y ys h1 h2;cases hd;simp only[repVs] at hr ⊢;obtain⟨v,vs',h3,⟨h4,h5⟩,h6⟩:=hr;refine⟨v,vs',h3,⟨λha=> ?_,λha=>ZcC h x y _ h1 (h5 (by rw[←(ZcB x y h1).2];exact ha))⟩,repVs_rn h xs ys vs' h2 h6⟩;obtain⟨cs,e1,e2⟩:=h4 (by rw[←(ZcB x y h1).2];exact ha);exact⟨cs,e1,ZcC h x y _ h1 e2⟩
  ·cases hd
end
theorem Zdo{f:Nat→Option Nat}{σ σ':Sg}(h:Rn f σ σ'){d d':Dv}{v:yh}(hd:d.rn f=some d')(hr:repDV σ d v):repDV σ' d' v:=by
 obtain⟨h4,h5⟩:=hr;refine⟨λha=> ?_,λha=>ZcC h d d' _ hd (h5 (by rw[←(ZcB d d' hd).2];exact ha))⟩;obtain⟨cs,e1,e2⟩:=h4 (by rw[←(ZcB d d' hd).2];exact ha);exact⟨cs,e1,ZcC h d d' _ hd e2⟩
theorem XH{w:yy}{b o:Nat}{v:yh}(h:w.cell? ⟨b,o,none⟩=some v):b < w.heap.size:=World.block_lt_of_cell? w ⟨b,o,none⟩ h
theorem Zsg{σ σ':Sg}(h:Leaf σ σ'):∀(l:List (Pl×Pl))(es:List MapEntry),Zar σ l es→Zar σ' l es
 |[],[],_=>trivial
 |[],_::_,k=>k.elim
 |_::_,[],k=>k.elim
 |q::r,e::es,k=>⟨Wc h k.1,Wc h k.2.1,Zsg h r es k.2.2⟩
theorem Zsh{σ σ':Sg}(h:Leaf σ σ'){l:List (Pl×Pl)}{es:List MapEntry}(k:Zdh σ l es):Zdh σ' l es:=by
 obtain⟨l',p,nd,k⟩:=k;exact⟨l',p,nd,Zsg h _ _ k⟩
theorem ZaE{σ σ':Sg}(h:Leaf σ σ'){a:Option Nat}{e:Ent}(hb:∀b,a=some b→σ'.w.heap[b]? =σ.w.heap[b]?)(he:entOk σ a e):entOk σ' a e:=by
 cases e with
 |var d st=>
  obtain⟨b,cs,t,rfl,h1,h2,h3⟩:=he
  exact⟨b,cs,t,rfl,(hb b rfl).trans h1,ZO h d _ h2,h3⟩
 |log s e xs=>
  rcases he with⟨rfl,h1⟩|⟨b,cur,cap,rfl,h1,h2,h3,h4,h5,h6⟩
  ·exact .inl ⟨rfl,h1⟩
  ·exact .inr ⟨b,cur,cap,rfl,(hb b rfl).trans h1,h2,h3,h4,h5,repCs_mono h.cells xs _ h6⟩
 |map t kvs=>
  obtain⟨b,es,clock,rfl,h1,h2,h3⟩:=he
  exact⟨b,es,clock,rfl,(hb b rfl).trans h1,Zsh h h2,h3⟩
 |row v s st e d=>
  obtain⟨N,h0,h1⟩:=he;refine⟨N,h0, ?_⟩;rcases h1 with h1|⟨b,cur,cap,rfl,h1,h2,h3,h4,h5⟩
  ·exact .inl h1
  ·exact .inr ⟨b,cur,cap,rfl,(hb b rfl).trans h1,h2,h3,h4,ZO h d _ h5⟩
 |gone=>exact he
theorem ZmU{σ:Sg}(ok:Ok σ){w':yy}(hg:σ.w.grownBy w' none):To σ { σ with w:=w'}∧Ok { σ with w:=w'}:=by
 have hb:∀b,b < σ.w.heap.size→w'.heap[b]? =σ.w.heap[b]? :=λb hb=>hg.block b hb (by simp);have hm:∀(id b:Nat),σ.m[id]? =some (some b)→w'.heap[b]? =σ.w.heap[b]? :=λid b h=>hb b (ok.lt id b h)
 have leaf:Leaf σ { σ with w:=w'}:=by
  refine⟨λb o v h1 h2=>⟨?_,h2⟩,λid b h1 h2=>⟨h1,h2⟩,λid s len A c h1=> ?_,λid b h1 h2=>⟨h1,h2⟩,λid v s st e d h=>⟨v,st,d,h,ym _,λ_=>⟨rfl,λb cur hb hc=>⟨cur,(hm id b hb).trans hc,rfl⟩⟩⟩⟩
  ·show w'.cell? ⟨b,o,none⟩=some v;rw[World.cell?_of_block (w:=σ.w) (hb b (XH h1))];exact h1
  ·obtain⟨e,ys,h2,h3,h4⟩:=h1;refine⟨e,ys,h2,h3,λhl=> ?_⟩;rcases h4 hl with h5|⟨b,cur,h5,h6,h7,h8⟩
   ·exact .inl h5
   ·exact .inr ⟨b,cur,h5,h6,(hm id b h5).trans h7,h8⟩
 refine⟨⟨leaf,rfl,rfl,hg.os,hg.tape,hg.output,hg.size,λb h1 _=>hb b h1,λid b h=>.inl h,ym _⟩,⟨ok.len,ok.inj,λi b h=>Nat.lt_of_lt_of_le (ok.lt i b h) hg.size,λi e a h1 h2=> ?_,λb h=>ok.new b (Nat.le_trans hg.size h),ok.own⟩⟩;exact ZaE leaf (λb hb=>hm i b (by rw[h2,hb])) (ok.ent i e a h1 h2)
theorem ZzL{σ:Sg}(ok:Ok σ){b o:Nat}(h:σ.B b)(hn:∀(id:Nat),σ.m[id]? ≠some (some b)):σ.stab b o:=
 ⟨.inr h,λid _ he _=>absurd he (hn id)⟩
def Ym(P:yg)(o:Oper)(a:Act)(σ:Sg)(d:Dv)(H':List Ent):Prop:=
 ∀(K:Act→yy→Prop)(Q:Exit→Act→yy→Prop),(∀v σ',σ'.H=H'→To σ σ'→Ok σ'→repDV σ' d v→K (a.put o.dst v) σ'.w)→o.wp P a σ.w K Q
theorem Zh{P:yg}{o:Oper}{a:Act}{σ:Sg}{d:Dv}{v:yh}(ok:Ok σ)(hr:(execOp a.eval o).run P σ.w=.ok (.value v) σ.w)(hd:repDV σ d v):Ym P o a σ d σ.H:=by
 intro K Q h;unfold Oper.wp;rw[hr];exact h v σ rfl (To.refl σ) ok hd
theorem ZE{P:yg}{o:Oper}{a:Act}{σ σ':Sg}{d:Dv}{v:yh}(hr:(execOp a.eval o).run P σ.w=.ok (.value v) σ'.w)(to:To σ σ')(ok:Ok σ')(hd:repDV σ' d v):Ym P o a σ d σ'.H:=by
 intro K Q h;unfold Oper.wp;rw[hr];exact h v σ' rfl to ok hd
structure PlWk(x y:Pl):Prop where
 size:x.size=y.size
 agg:x.isAgg=y.isAgg
 rep:∀(w:yy)(S:Nat→Nat→Prop)(vs:List yh),repC w S x vs→repC w S y vs
structure PlsWk(xs ys:List Pl):Prop where
 len:xs.length=ys.length
 sizes:Pl.sizes xs=Pl.sizes ys
 all:∀s,allSz s xs→allSz s ys
 rep:∀(w:yy)(S:Nat→Nat→Prop)(vs:List yh),repCs w S xs vs→repCs w S ys vs
theorem PlWk.refl(x:Pl):PlWk x x:=⟨rfl,rfl,λ_ _ _ h=>h⟩
theorem PlsWk.refl(x:List Pl):PlsWk x x:=⟨rfl,rfl,λ_ h=>h,λ_ _ _ h=>h⟩
theorem PlsWk.of_eq{x y:List Pl}(h:x=y):PlsWk x y:=h ▸ PlsWk.refl x
theorem PlsWk.nil:PlsWk [] []:=PlsWk.refl []
theorem PlsWk.cons{x y:Pl}{xs ys:List Pl}(h:PlWk x y)(k:PlsWk xs ys):PlsWk (x::xs) (y::ys) where
 len:=by simp[k.len]
 sizes:=by simp only[Pl.sizes];rw[h.size,k.sizes]
 all s ha:=by
  intro z hz;rcases List.mem_cons.1 hz with rfl|hz
  ·rw[←h.size];exact ha x (yap ..)
  ·exact k.all s (λz hz=>ha z (yau _ hz)) z hz
 rep w S vs hr:=by
  simp only[repCs] at hr ⊢;obtain⟨us,us',e,h1,h2⟩:=hr;exact⟨us,us',e,h.rep w S us h1,k.rep w S us' h2⟩
theorem PlsWk.map{α:Type}{f g:α→Pl}(h:∀x,PlWk (f x) (g x)):∀(l:List α),PlsWk (l.map f) (l.map g)
 |[]=>PlsWk.nil
 |x::l=>PlsWk.cons (h x) (PlsWk.map h l)
theorem PlWk.agg_mk{xs ys:List Pl}(h:PlsWk xs ys):PlWk (.agg xs) (.agg ys):=⟨h.sizes,rfl,λw S vs hr=>by simp only[repC] at hr ⊢;exact h.rep w S vs hr⟩
theorem PlWk.arr_mk{n s:Nat}{xs ys:List Pl}(h:PlsWk xs ys):PlWk (.arr n s xs) (.arr n s ys):=
 ⟨rfl,rfl,λw S vs hr=>by simp only[repC] at hr ⊢;exact⟨by rw[←h.len];exact hr.1,h.all s hr.2.1,h.rep w S vs hr.2.2⟩⟩
theorem PlWk.sl_nn{nn:Option Bool}{s:Nat}{xs ys:List Pl}(h:PlsWk xs ys):PlWk (.sl nn s xs) (.sl nn s ys):=⟨rfl,rfl,λw S vs hr=>by
 simp only[repC] at hr ⊢;obtain⟨h1,A,c,rfl,h2,h3,h4,h5,h6⟩:=hr;refine⟨h.all s h1,A,c,by rw[h.len],by rw[←h.len];exact h2,h3,h4,h5,λhne=> ?_⟩;obtain⟨b,o,us,e,r,k⟩:=h6 (by intro e;subst e;exact hne (yaz h.len.symm));exact⟨b,o,us,e,h.rep _ _ _ r,k⟩⟩
theorem PlWk.iface_mk{t:yb}{x y:Pl}(h:PlWk x y):PlWk (.iface t x) (.iface t y):=⟨rfl,rfl,λw S vs hr=>by
 simp only[repC] at hr ⊢;obtain⟨v,e,h1,h2⟩:=hr;refine⟨v,e,λha=> ?_,λha=>h.rep _ _ _ (h2 (by rw[h.agg];exact ha))⟩;obtain⟨cs,e1,e2⟩:=h1 (by rw[h.agg];exact ha);exact⟨cs,e1,h.rep _ _ _ e2⟩⟩
theorem PlWk.sl_mk{nn:Option Bool}{s:Nat}{xs ys:List Pl}(h:PlsWk xs ys):PlWk (.sl nn s xs) (.sl none s ys):=⟨rfl,rfl,λw S vs hr=>by
 simp only[repC] at hr ⊢;obtain⟨h1,A,c,rfl,h2,h3,h4,h5,h6⟩:=hr;refine⟨h.all s h1,A,c,by rw[h.len],by rw[←h.len];exact h2,h3,ZY _,h5,λhne=> ?_⟩;obtain⟨b,o,us,e,r,k⟩:=h6 (by intro e;subst e;exact hne (yaz h.len.symm));exact⟨b,o,us,e,h.rep _ _ _ r,k⟩⟩
structure Wk(d e:Dv):Prop where
 size:d.size=e.size
 agg:d.isAgg=e.isAgg
 rep:∀(σ:Sg)(vs:List yh),repD σ d vs→repD σ e vs
theorem Wk.refl(d:Dv):Wk d d:=⟨rfl,rfl,λ_ _ h=>h⟩
theorem Wk.of_eq{x y:Dv}(h:x=y):Wk x y:=h ▸ Wk.refl x
theorem Wk.p{x y:Pl}(h:PlWk x y):Wk (.p x) (.p y):=⟨h.size,h.agg,λσ vs r=>by simp only[repD] at r ⊢;exact h.rep _ _ _ r⟩
theorem Zv4{σ:Sg}{id s:Nat}{nn mm:Option Bool}{xs ys:List Pl}{vs:List yh}(h:PlsWk xs ys)(hn:∀A,Zq2 nn A→Zq2 mm A)(r:repD σ (.own id nn s xs) vs):repD σ (.own id mm s ys) vs:=by
 simp only[repD] at r ⊢;obtain⟨h1,A,c,h2,h3,h4,h5,h6,h7,h8⟩:=r;refine⟨h.all s h1,A,c,by rw[←h.len];exact h2,by rw[←h.len];exact h3,h4,hn A h5,h6,λhne=> ?_,by rw[←h.len];exact h8⟩;obtain⟨b,o,us,e,r,k⟩:=h7 (by intro e;subst e;exact hne (yaz h.len.symm));exact⟨b,o,us,e,h.rep _ _ _ r,k⟩
theorem Wk.own{id s:Nat}{nn:Option Bool}{xs ys:List Pl}(e:xs=ys):Wk (.own id nn s xs) (.own id none s ys):=
 ⟨rfl,rfl,λσ vs r=>Zv4 (PlsWk.of_eq e) (λ_ _=>ZY _) r⟩
theorem Wk.own_nn{id s:Nat}{nn:Option Bool}{xs ys:List Pl}(e:PlsWk xs ys):Wk (.own id nn s xs) (.own id nn s ys):=
 ⟨rfl,rfl,λσ vs r=>Zv4 e (λ_ h=>h) r⟩
theorem Wk.own_sl{id s:Nat}{nn:Option Bool}{xs ys:List Pl}(h:PlsWk xs ys):Wk (.own id nn s xs) (.p (.sl none s ys)):=by
 refine⟨rfl,rfl,λσ vs r=> ?_⟩;simp only[repD] at r ⊢;obtain⟨h1,A,c,h2,h3,h4,h5,h6,h7,h8⟩:=r;exact(PlWk.sl_mk (nn:=nn) h).rep _ _ _ (by simp only[repC];exact⟨h1,A,c,h2,h3,h4,h5,h6,h7⟩)
theorem Wk.junk{d:Dv}(h:d.isAgg=false)(hs:d.size=1):Wk d .junk:=⟨hs,h,λσ vs r=>by simp only[repD];rw[YZ _ _ r,hs]⟩
theorem Wk.dv{d e:Dv}(h:Wk d e){σ:Sg}{v:yh}(r:repDV σ d v):repDV σ e v:=by
 obtain⟨r1,r2⟩:=r;refine⟨λha=> ?_,λha=>h.rep _ _ (r2 (by rw[h.agg];exact ha))⟩;obtain⟨cs,e1,e2⟩:=r1 (by rw[h.agg];exact ha);exact⟨cs,e1,h.rep _ _ e2⟩
inductive WkL:List Dv→List Dv→Prop where
 |nil:WkL [] []
 |cons {d e:Dv} {ds es:List Dv} (h:Wk d e) (k:WkL ds es):WkL (d::ds) (e::es)
theorem WkL.refl:∀(l:List Dv),WkL l l
 |[]=>.nil
 |d::l=>.cons (Wk.refl d) (WkL.refl l)
theorem WkL.tup{ds es:List Dv}(h:WkL ds es):Wk (.tup ds) (.tup es):=by
 refine⟨rfl,rfl,λσ vs r=> ?_⟩;simp only[repD] at r ⊢;obtain⟨cs,e,r⟩:=r;refine⟨cs,e, ?_⟩;clear e;generalize cs.toList=l at r
 induction h generalizing l with
 |nil=>exact r
 |cons h k ih=>
  simp only[repVs] at r ⊢;obtain⟨v,vs',e1,r1,r2⟩:=r;exact⟨v,vs',e1,h.dv r1,ih _ r2⟩
theorem WkL.vs{ds es:List Dv}(h:WkL ds es){σ:Sg}:∀{l:List yh},repVs σ ds l→repVs σ es l:=by
 induction h with
 |nil=>intro l r;exact r
 |cons h k ih=>
  intro l r;simp only[repVs] at r ⊢;obtain⟨v,vs',e1,r1,r2⟩:=r;exact⟨v,vs',e1,h.dv r1,ih r2⟩
theorem WkL.len{ds es:List Dv}(h:WkL ds es):ds.length=es.length:=by
 induction h with
 |nil=>rfl
 |cons _ _ ih=>simp[ih]
theorem WkL.get{ds es:List Dv}(h:WkL ds es):∀{i:Nat}{e:Dv},es[i]? =some e→∃d,ds[i]? =some d∧Wk d e:=by
 induction h with
 |nil=>intro i e h;simp at h
 |cons h k ih=>
  intro i e hi
  cases i with
  |zero=>simp only[ybh,yj] at hi ⊢;subst hi;exact⟨_,rfl,h⟩
  |succ j=>simp only[yar] at hi ⊢;exact ih hi
theorem WkL.repT{ds es:List Dv}(h:WkL ds es){σ:Sg}{a:Act}(r:RepT σ ds a):RepT σ es a:=by
 refine⟨by rw[←h.len];exact r.size,λi e he=> ?_,r.defers⟩;obtain⟨d,hd,hw⟩:=h.get he;exact hw.dv (r.at_ i d hd)
theorem WkL.agg{ds es:List Dv}(h:WkL ds es):Wk (.agg ds) (.agg es):=by
 have hs:Dv.sizes ds=Dv.sizes es:=by
  induction h with
  |nil=>rfl
  |cons h k ih=>simp only[Dv.sizes];rw[h.size,ih]
 refine⟨hs,rfl,λσ vs r=> ?_⟩;simp only[repD] at r ⊢;clear hs
 induction h generalizing vs with
 |nil=>exact r
 |cons h k ih=>
  simp only[repDs] at r ⊢;obtain⟨us,us',e,r1,r2⟩:=r;exact⟨us,us',e,h.rep _ _ r1,ih _ r2⟩
inductive KvWk:List (Pl×Pl)→List (Pl×Pl)→Prop where
 |nil:KvWk [] []
 |cons {k v v':Pl} {l m:List (Pl×Pl)} (h:PlWk v v') (r:KvWk l m):KvWk ((k,v)::l) ((k,v')::m)
theorem KvWk.rep{σ:Sg}{l m:List (Pl×Pl)}(h:KvWk l m):∀(es:List MapEntry),Zar σ l es→Zar σ m es:=by
 induction h with
 |nil=>intro es h;exact h
 |cons h r ih=>
  intro es k
  cases es with
  |nil=>exact k
  |cons e es=>exact⟨k.1,(Wk.p h).dv k.2.1,ih es k.2.2⟩
theorem KvWk.keys{l m:List (Pl×Pl)}(h:KvWk l m):m.map (·.1)=l.map (·.1):=by
 induction h with
 |nil=>rfl
 |cons h r ih=>rw[yad,yad,ih]
theorem KvWk.perm{l l':List (Pl×Pl)}(p:l.Perm l'):∀{m:List (Pl×Pl)},KvWk l m→∃m',m.Perm m'∧KvWk l' m':=by
 induction p with
 |nil=>intro m h;exact⟨m,.refl _,h⟩
 |cons x p ih=>
  intro m h
  cases h with
  |cons h r=>
   obtain⟨m',q1,q2⟩:=ih r
   exact⟨_,q1.cons _,.cons h q2⟩
 |swap x y l=>
  intro m h
  cases h with
  |cons h r=>
   cases r with
   |cons h2 r=>exact⟨_,.swap _ _ _,.cons h2 (.cons h r)⟩
 |trans p q ih1 ih2=>
  intro m h;obtain⟨m1,a1,a2⟩:=ih1 h;obtain⟨m2,b1,b2⟩:=ih2 a2;exact⟨m2,a1.trans b1,b2⟩
theorem KvWk.any{σ:Sg}{l m:List (Pl×Pl)}(h:KvWk l m){es:List MapEntry}(k:Zdh σ l es):Zdh σ m es:=by
 obtain⟨l',p,nd,r⟩:=k;obtain⟨m',q1,q2⟩:=KvWk.perm p.symm h;exact⟨m',q1.symm,by rw[h.keys];exact nd,q2.rep _ r⟩
inductive WkE:Ent→Ent→Prop where
 |refl (e:Ent):WkE e e
 |var {d d':Dv} {st:Bool} (h:Wk d d'):WkE (.var d st) (.var d' st)
 |log {s:Nat} {e:yb} {xs ys:List Pl} (h:PlsWk xs ys):WkE (.log s e xs) (.log s e ys)
 |map {t:yb} {l m:List (Pl×Pl)} (h:KvWk l m):WkE (.map t l) (.map t m)
 |perm {t:yb} {l m:List (Pl×Pl)} (h:l.Perm m):WkE (.map t l) (.map t m)
 |row {v s:Nat} {st:Bool} {e:yb} {d d':Dv} (h:Wk d d'∧rowN d s=rowN d' s):WkE (.row v s st e d) (.row v s st e d')
 |lock {v s:Nat} {st:Bool} {e:yb} {d:Dv}:WkE (.row v s st e d) (.row v s false e d)
 |frz {d:Dv} {st:Bool}:WkE (.var d st) (.var d false)
 |varz {d d':Dv} {st:Bool} (h:Wk d d'):WkE (.var d st) (.var d' false)
 |shr {v s n N:Nat} {e:yb} {xs:List Pl} (h:n≤N):WkE (.row v s true e (.p (.arr N s xs))) (.row v s true e (.p (.arr n s (xs.take n))))
inductive WkH:List Ent→List Ent→Prop where
 |nil:WkH [] []
 |cons {e f:Ent} {es fs:List Ent} (h:WkE e f) (k:WkH es fs):WkH (e::es) (f::fs)
theorem WkH.refl:∀(l:List Ent),WkH l l
 |[]=>.nil
 |d::l=>.cons (.refl d) (WkH.refl l)
theorem WkH.len{ds es:List Ent}(h:WkH ds es):ds.length=es.length:=by
 induction h with
 |nil=>rfl
 |cons _ _ ih=>simp[ih]
theorem WkH.get{ds es:List Ent}(h:WkH ds es):∀{i:Nat}{d:Ent},ds[i]? =some d→∃e,es[i]? =some e∧WkE d e:=by
 induction h with
 |nil=>intro i e h;simp at h
 |cons h k ih=>
  intro i e hi
  cases i with
  |zero=>simp only[ybh,yj] at hi ⊢;subst hi;exact⟨_,rfl,h⟩
  |succ j=>simp only[yar] at hi ⊢;exact ih hi
theorem WkH.back{ds es:List Ent}(h:WkH ds es):∀{i:Nat}{e:Ent},es[i]? =some e→∃d,ds[i]? =some d∧WkE d e:=by
 induction h with
 |nil=>intro i e h;simp at h
 |cons h k ih=>
  intro i e hi
  cases i with
  |zero=>simp only[ybh,yj] at hi ⊢;subst hi;exact⟨_,rfl,h⟩
  |succ j=>simp only[yar] at hi ⊢;exact ih hi
theorem WkE.unlocked{e f:Ent}(h:WkE e f)(o:Nat)(k:e.unlocked o):f.unlocked o:=by
 cases h with
 |log h=>simpa only[Ent.unlocked,h.len] using k
 |lock=>exact⟨rfl,k.2⟩
 |row h=>exact⟨k.1,by rw[←h.2];exact k.2⟩
 |shr _=>exact absurd k.1 (by simp)
 |frz=>rfl
 |varz _=>rfl
 |_=>exact k
theorem Zsi{w:yy}{S:Nat→Nat→Prop}{s:Nat}:∀{xs:List Pl}{vs:List yh},(∀x,x∈xs→x.size=s)→repCs w S xs vs→∀(n:Nat),n≤xs.length→repCs w S (xs.take n) (vs.take (n*s))
 |[],vs,_,h,n,hn=>by
  have:n=0:=by simpa using hn
  subst this;simp only[repCs] at h;subst h
  simp[repCs]
 |x::r,vs,hs,h,0,_=>by simp[repCs]
 |x::r,vs,hs,h,n+1,hn=>by
  simp only[repCs] at h;obtain⟨us,us',rfl,h1,h2⟩:=h;have hl:us.length=s:=by rw[Xe _ _ h1];exact hs x (yap ..)
  simp only[List.take_succ_cons,repCs];refine⟨us,us'.take (n*s), ?_,h1,Zsi (λy hy=>hs y (yau _ hy)) h2 n (by simpa using hn)⟩;rw[List.take_append,hl,yat,Nat.one_mul,ycn (by omega)];congr 2;omega
theorem WkH.set_at:∀{l:List Ent}{i:Nat}{e f:Ent},l[i]? =some e→WkE e f→WkH l (l.set i f)
 |[],_,_,_,h,_=>by simp at h
 |x::l,0,e,f,h,k=>by
  simp only[ybh,yj] at h;subst h
  exact .cons k (WkH.refl l)
 |x::l,i+1,e,f,h,k=>by
  simp only[yar] at h;exact .cons (.refl x) (WkH.set_at h k)
theorem ZkY{σ:Sg}(ok:Ok σ){H':List Ent}(h:WkH σ.H H'):To σ { σ with H:=H'}∧Ok { σ with H:=H'}:=by
 have stab:∀b o,σ.stab b o→({ σ with H:=H'}:Sg).stab b o:=λb o hs=>⟨hs.1,λid e h1 h2=>by
  obtain⟨d,h3,h4⟩:=h.back h2;exact h4.unlocked o (hs.2 id d h1 h3)⟩
 have leaf:Leaf σ { σ with H:=H'}:=by
  refine⟨λb o v h1 h2=>⟨h1,stab b o h2⟩,λid b h1 h2=>⟨h1, ?_⟩,λid s len A c h1=> ?_,λid b h1 h2=>⟨h1, ?_⟩,λid v s st e d h1=> ?_⟩
  ·obtain⟨d,st,h2⟩:=h2;obtain⟨e,h3,h4⟩:=h.get h2
   cases h4 with
   |refl=>exact⟨d,st,h3⟩
   |var h5=>exact⟨_,_,h3⟩
   |frz=>exact⟨_,_,h3⟩
   |varz _=>exact⟨_,_,h3⟩
  ·obtain⟨e,ys,h2,h3⟩:=h1;obtain⟨e',h4,h5⟩:=h.get h2
   cases h5 with
   |refl=>exact⟨e,ys,h4,h3⟩
   |log h6=>exact⟨_,_,h4,by rw[←h6.len];exact h3⟩
  ·obtain⟨t,kvs,h2⟩:=h2;obtain⟨e',h4,h5⟩:=h.get h2
   cases h5 with
   |refl=>exact⟨t,kvs,h4⟩
   |map h6=>exact⟨_,_,h4⟩
   |perm h6=>exact⟨_,_,h4⟩
  ·obtain⟨e',h4,h5⟩:=h.get h1
   cases h5 with
   |refl=>exact⟨v,st,d,h4,ym _,λ_=>⟨rfl,λb cur _ hc=>⟨cur,hc,rfl⟩⟩⟩
   |row h6=>exact⟨v,st,_,h4,ym _,λ_=>⟨rfl,λb cur _ hc=>⟨cur,hc,rfl⟩⟩⟩
   |shr _=>exact⟨v,true,_,h4,ym _,λ_=>⟨rfl,λb cur _ hc=>⟨cur,hc,rfl⟩⟩⟩
   |lock=>exact⟨v,false,_,h4,ym _,λ_=>⟨rfl,λb cur _ hc=>⟨cur,hc,rfl⟩⟩⟩
 refine⟨⟨leaf,rfl,rfl,rfl,rfl,rfl,ym _,λ_ _ _=>rfl,λ_ _ h=>.inl h,ym _⟩,⟨by show σ.m.length=H'.length;rw[ok.len,h.len],ok.inj,ok.lt,λi e a h1 h2=> ?_,ok.new,ok.own⟩⟩;obtain⟨d,h3,h4⟩:=h.back h1;have hd:=ZaE leaf (λb _=>rfl) (ok.ent i d a h3 h2)
 cases h4 with
 |refl=>exact hd
 |var h5=>
  obtain⟨b,cs,t,e1,e2,e3,e4⟩:=hd
  exact⟨b,cs,t,e1,e2,by rw[←h5.size];exact h5.rep _ _ e3,by rw[←h5.size];exact e4⟩
 |log h5=>
  rcases hd with⟨e1,e2⟩|⟨b,cur,cap,e1,e2,e3,e4,e5,e6,e7⟩
  ·subst e2;exact .inl ⟨e1,yaz h5.len.symm⟩
  ·exact .inr ⟨b,cur,cap,e1,e2,e3,by rw[←h5.len];exact e4,e5,h5.all _ e6,by rw[←h5.len];exact h5.rep _ _ _ e7⟩
 |map h5=>
  obtain⟨b,es,clock,e1,e2,e3,e4⟩:=hd
  exact⟨b,es,clock,e1,e2,h5.any e3,e4⟩
 |perm h5=>
  obtain⟨b,es,clock,e1,e2,⟨l',p,nd,r⟩,e4⟩:=hd
  exact⟨b,es,clock,e1,e2,⟨l',p.trans h5,(h5.map _).nodup_iff.1 nd,r⟩,e4⟩
 |row h5=>
  obtain⟨N,e1,e2⟩:=hd;refine⟨N,by rw[←h5.2];exact e1, ?_⟩;rcases e2 with e2|⟨b,cur,cap,e3,e4,e5,e6,e7,e8⟩
  ·exact .inl e2
  ·exact .inr ⟨b,cur,cap,e3,e4,e5,e6,e7,h5.1.rep _ _ e8⟩
 |lock=>exact hd
 |frz=>exact hd
 |varz h5=>
  obtain⟨b,cs,t,e1,e2,e3,e4⟩:=hd
  exact⟨b,cs,t,e1,e2,by rw[←h5.size];exact h5.rep _ _ e3,by rw[←h5.size];exact e4⟩
 |shr h5=>
  obtain⟨N0,e1,e2⟩:=hd;simp only[rowN,if_pos,yj] at e1;subst e1;refine⟨_,if_pos rfl, ?_⟩;rcases e2 with⟨e2,e3⟩|⟨b,cur,cap,e3,e4,e5,e6,e7,e8⟩
  ·exact .inl ⟨e2,by omega⟩
  ·refine .inr ⟨b,cur,cap,e3,e4,e5,by omega,e7, ?_⟩;simp only[repD,repC] at e8 ⊢;obtain⟨q1,q2,q3⟩:=e8;refine⟨by rw[yae];omega,λx hx=>q2 x (ybn hx), ?_⟩;have:=Zsi q2 q3 _ (show _≤_ from by rw[q1];exact h5)
   rw[List.take_take,yav (ycb _ h5)] at this;exact this
theorem Pl.softs_map:∀(xs:List Pl),Pl.softs xs=xs.map Pl.soft
 |[]=>rfl
 |x::r=>by rw[Pl.softs,Pl.softs_map r];rfl
mutual
theorem ZeJ:∀(x:Pl),PlWk x x.soft
 |.int _ _=>PlWk.refl _
 |.bool _=>PlWk.refl _
 |.str _=>PlWk.refl _
 |.ptr0=>PlWk.refl _
 |.fn0=>PlWk.refl _
 |.if0=>PlWk.refl _
 |.map0=>PlWk.refl _
 |.fnv _=>PlWk.refl _
 |.agg xs=>by rw[Pl.soft];exact PlWk.agg_mk (softs_wk xs)
 |.arr n s xs=>by rw[Pl.soft];exact PlWk.arr_mk (softs_wk xs)
 |.sl nn s xs=>by rw[Pl.soft];exact PlWk.sl_mk (PlsWk.refl _)
 |.iface t x=>by rw[Pl.soft];exact PlWk.iface_mk (ZeJ x)
theorem softs_wk:∀(xs:List Pl),PlsWk xs (Pl.softs xs)
 |[]=>PlsWk.nil
 |x::r=>by rw[Pl.softs];exact PlsWk.cons (ZeJ x) (softs_wk r)
end
theorem ZoO(x:Pl):x.soft.size=x.size:=(ZeJ x).size.symm
theorem WkH.append{a b c d:List Ent}(h:WkH a b)(k:WkH c d):WkH (a++c) (b++d):=by
 induction h with
 |nil=>exact k
 |cons h _ ih=>exact .cons h ih
theorem WkH.set_same{e f:Ent}:∀(l:List Ent)(i:Nat),WkE e f→WkH (l.set i e) (l.set i f)
 |[],_,_=>.nil
 |x::l,0,h=>.cons h (WkH.refl l)
 |x::l,i+1,h=>.cons (.refl x) (WkH.set_same l i h)
theorem PlsWk.set_same{x y:Pl}(h:PlWk x y):∀(l:List Pl)(i:Nat),PlsWk (l.set i x) (l.set i y)
 |[],_=>.nil
 |z::l,0=>.cons h (PlsWk.refl l)
 |z::l,i+1=>.cons (PlWk.refl z) (PlsWk.set_same h l i)
theorem ZrO{P:yg}{o:Oper}{a:Act}{σ:Sg}{d d':Dv}{H1 H2:List Ent}(h:Ym P o a σ d H1)(hd:Wk d d')(hH:WkH H1 H2):Ym P o a σ d' H2:=by
 intro K Q hK;refine h K Q λv σ1 e1 to1 ok1 hd'=> ?_;obtain⟨to,ok2⟩:=ZkY ok1 (H':=H2) (by rw[e1];exact hH);exact hK v { σ1 with H:=H2} rfl (to1.trans to) ok2 (hd.dv (Wc to.leaf hd'))
theorem ZoP{σ:Sg}:∀{ds:List Dv}{vs:List yh},repVs σ ds vs→vs.length=ds.length
 |[],vs,h=>by simp only[repVs] at h;subst h;rfl
 |d::ds,vs,h=>by
  simp only[repVs] at h;obtain⟨v,vs',rfl,_,h2⟩:=h;simp[ZoP h2]
theorem Zsj{σ:Sg}:∀{ds:List Dv}{vs:List yh}{i:Nat}{d:Dv},repVs σ ds vs→ds[i]? =some d→∃v,vs[i]? =some v∧repDV σ d v
 |[],vs,i,d,_,hd=>by simp at hd
 |x::ds,vs,i,d,h,hd=>by
  simp only[repVs] at h;obtain⟨v,vs',rfl,h1,h2⟩:=h
  cases i with
  |zero=>
   simp only[ybh,yj] at hd;subst hd
   exact⟨v,rfl,h1⟩
  |succ i=>
   simp only[yar] at hd ⊢;exact Zsj h2 hd
theorem Xy{σ:Sg}:∀{ds es:List Dv}{vs us:List yh},repVs σ ds vs→repVs σ es us→repVs σ (ds++es) (vs++us)
 |[],es,vs,us,h,k=>by simp only[repVs] at h;subst h;simpa using k
 |d::ds,es,vs,us,h,k=>by
  simp only[repVs] at h;obtain⟨v,vs',rfl,h1,h2⟩:=h;simp only[yaa,repVs];exact⟨v,vs'++us,rfl,h1,Xy h2 k⟩
theorem Zsk{σ:Sg}{α:Type}(f:α→Dv)(g:α→yh)(h:∀x,repDV σ (f x) (g x)):∀(l:List α),repVs σ (l.map f) (l.map g)
 |[]=>by simp[repVs]
 |x::l=>by
  simp only[yad,repVs];exact⟨g x,l.map g,rfl,h x,Zsk f g h l⟩
theorem ZrP{w:yy}{S:Nat→Nat→Prop}{s:Nat}{xs:List Pl}{A:Option Addr}{c l h:Nat}(hs:allSz s xs)(hn:xs.length≤c)(hcm:c≤maxLen)(hnil:A=none→c=0)
 (hr:xs≠[]→∃b o us,A=some ⟨b,o,none⟩∧repCs w S xs us∧Xr w S b o us) (h1:l≤h) (h2:h≤xs.length):
 allSz s ((xs.take h).drop l)∧((xs.take h).drop l).length=h - l∧h - l≤c - l∧c - l≤maxLen∧(if c=l then A else A.map (·.add (l*s))).isSome=A.isSome∧
  ((if c=l then A else A.map (·.add (l*s)))=none→c - l=0)∧
  ((xs.take h).drop l≠[]→∃b o us,(if c=l then A else A.map (·.add (l*s)))=some ⟨b,o,none⟩∧repCs w S ((xs.take h).drop l) us∧Xr w S b o us):=by
 have hlen:((xs.take h).drop l).length=h - l:=by rw[ybq,yae,yav h2]
 refine⟨ZgM (Wg hs _) _,hlen,by omega,by omega, ?_, ?_,λhne=> ?_⟩
 ·split
  ·rfl
  ·simp
 ·split
  ·omega
  ·intro hA;have hA':A=none:=by simpa using hA
   have:=hnil hA';omega
 ·have hlt:l < h:=by
   rcases ybp l h with h3|h3
   ·exact h3
   ·exact absurd (yaz (by rw[hlen];omega)) hne
  have hxs:xs≠[]:=by
   rintro rfl;simp at h2;omega
  obtain⟨b,o,us,rfl,h3,h4⟩:=hr hxs;have hc:¬c=l:=by omega
  rw[if_neg hc]
  have e:xs=xs.take l++((xs.take h).drop l++xs.drop h):=by
   have e1:(xs.take h).drop l++xs.drop h=xs.drop l:=by
    have:xs.drop l=(xs.take h++xs.drop h).drop l:=by rw[ybf]
    rw[this,List.drop_append_of_le_length (by rw[yae];omega)]
   rw[e1,ybf]
  rw[e] at h3;obtain⟨u1,u2,rfl,h5,h6⟩:=Z0 h3;obtain⟨u3,u4,rfl,h7,h8⟩:=Z0 h6
  have hl1:u1.length=l*s:=by
   rw[repCs_size _ _ h5,sizes_all (Wg hs _),yae,yav (by omega)]
  refine⟨b,o+l*s,u3,by simp[Addr.add_mk],h7, ?_⟩;have:=(Xr.append (Xr.append h4).2).1
  rwa [hl1] at this
theorem V1{P:yg}{w:yy}(isSlice:Bool)(len cap:Nat)(lo hi:Option yh)(l h:Option Int)(hl:lo=none∧l=none∨∃k i,lo=some (.int k i)∧l=some i)
 (hh:hi=none∧h=none∨∃k i,hi=some (.int k i)∧h=some i) (hc:AllP (Yt len l h)) (hlen:len≤cap):
 ∃a b,(Instr.sliceBounds isSlice len cap lo hi none).run P w=.ok (a,b,cap) w∧a≤b∧b≤len∧a=(l.getD 0).toNat∧b=(h.getD (len:Int)).toNat:=by
 rcases hl with⟨rfl,rfl⟩|⟨k,i,rfl,rfl⟩ <;> rcases hh with⟨rfl,rfl⟩|⟨k',i',rfl,rfl⟩
 ·exact⟨0,len,by simp[Instr.sliceBounds],Nat.zero_le _,ym _,rfl,by simp⟩
 ·obtain⟨h1,h2,_⟩:=hc;refine⟨0,i'.toNat, ?_,Nat.zero_le _,by omega,rfl,rfl⟩;have hb:0≤i'∧i'≤(cap:Int):=⟨h1,by omega⟩;simp[Instr.sliceBounds,Instr.sliceBound,asIntOf,hb]
 ·obtain⟨h1,h2,_⟩:=hc;refine⟨i.toNat,len, ?_,by omega,ym _,rfl,by simp⟩;have hb:0≤i∧i≤(len:Int):=⟨h1,h2⟩;simp[Instr.sliceBounds,Instr.sliceBound,asIntOf,hb]
 ·obtain⟨h1,h2,h3,_⟩:=hc;refine⟨i.toNat,i'.toNat, ?_,by omega,by omega,rfl,rfl⟩;have hb:0≤i'∧i'≤(cap:Int):=⟨by omega,by omega⟩;have hb':0≤i∧i≤(i'.toNat:Int):=⟨h1,by omega⟩;have hb2:i≤max i' 0:=by omega
  simp[Instr.sliceBounds,Instr.sliceBound,asIntOf,hb,h1,hb2]
theorem ZgN{α:Type}(xs:List α)(l h:Option Int)(hc:AllP (Yt xs.length l h)):We xs l h=(xs.take ((h.getD (xs.length:Int)).toNat)).drop ((l.getD 0).toNat):=by
 cases l <;> cases h <;> simp[We]
theorem Yi{P:yg}{σ:Sg}{ts:List Dv}{a:Act}(hrep:RepT σ ts a){x:Option yn}{l:Option Int}(h:ZbC P ts x=some l):
 x.map a.eval=none∧l=none∨∃k i,x.map a.eval=some (.int k i)∧l=some i:=by
 unfold ZbC at h;split at h
 ·cases h;exact .inl ⟨rfl,rfl⟩
 ·rename_i y;split at h
  ·rename_i k i hy;cases h;have:=Zi (P:=P) hrep 0 y;rw[hy] at this;exact .inr ⟨k,i,by simp[ZD this],rfl⟩
  ·cases h
end Go.Ev
end
section
namespace Go.Ev
section
variable{P:yg}{o:Oper}{a:Act}{σ:Sg}{ts:List Dv}{hs hs':List Hint}{C:List Prop}{d:Dv}
theorem ZhC{e:yb}{t:yb}{s:Nat}{xs:List Pl}{A:Option Addr}{c:Nat}{k:IntKind}{i:Int}{y:Pl}(ok:Ok σ)(hu:P.underlying t=some (.slice e))(he:P.cellsOf e=s)
 (hi:(P.info? e).isSome=true) (hs:allSz s xs) (hr:xs≠[]→∃b o us,A=some ⟨b,o,none⟩∧repCs σ.w σ.stab xs us∧Xr σ.w σ.stab b o us) (h0:0≤i) (hy:xs[i.toNat]? =some y):
 ∃v,(Instr.indexAt t (.slice A xs.length c) (.int k i)).run P σ.w=.ok v σ.w∧repDV σ (.elem y) v:=by
 have hlt:i.toNat < xs.length:=(yo.1 hy).1
 have hne:xs≠[]:=by
  rintro rfl;simp at hlt
 obtain⟨b,o,us,rfl,h1,h2⟩:=hr hne;obtain⟨uy,h3,h4⟩:=ZmT hs h1 h2 hy;refine⟨.pointer (some ⟨b,o+i.toNat*s,none⟩), ?_, ?_⟩
 ·have hb:0≤i∧i < (xs.length:Int):=⟨h0,by omega⟩;simp[Instr.indexAt,asIntOf,run_underlying hu,hb,ZQ hi,he,Addr.add_mk]
 ·rw[Ze (by rfl)];simp only[repD];exact⟨b,_,uy,rfl,h3,h4⟩
theorem ZiF{y:Pl}{v:yh}(h:repDV σ (.elem y) v):∃b o us,v=.pointer (some ⟨b,o,none⟩)∧repC σ.w σ.stab y us∧Xr σ.w σ.stab b o us:=by
 rw[Ze (by rfl)] at h;simpa[repD] using h
theorem ZeK{id off:Nat}{path:List Nat}{v:yh}(h:repDV σ (.ref id off path) v):
 ∃b,σ.m[id]? =some (some b)∧(∃d st,σ.H[id]? =some (.var d st))∧v=.pointer (some ⟨b,off,none⟩):=by
 rw[Ze (by rfl)] at h;simpa[repD] using h
theorem Zdp{id off s lo n:Nat}{path:List Nat}{v:yh}(h:repDV σ (.view id off path s lo n) v):
 ∃b c a,σ.m[id]? =some (some b)∧(∃d st,σ.H[id]? =some (.var d st))∧v=.slice (some a) n c∧n≤c∧c≤maxLen∧(0 < n→a=⟨b,off+lo*s,none⟩):=by
 rw[Ze (by rfl)] at h;simpa[repD] using h
theorem Zfw{id v s lo n:Nat}{u:yh}(h:repDV σ (.rv id v s lo n) u):
 ∃A c,u=.slice A n c∧n≤c∧c≤maxLen∧(A=none→c=0)∧(0 < n→∃b o,A=some ⟨b,o,none⟩)∧rowAt σ id v s lo A c:=by
 rw[Ze (by rfl)] at h;simpa[repD] using h
theorem ZmV{id v off:Nat}{path:List Nat}{u:yh}(h:repDV σ (.rref id v off path) u):∃b o,u=.pointer (some ⟨b,o,none⟩)∧rowIs σ id v b o off:=by
 rw[Ze (by rfl)] at h;simpa[repD] using h
theorem Zxo{id v off b o:Nat}{path:List Nat}(h:rowIs σ id v b o off):repDV σ (.rref id v off path) (.pointer (some ⟨b,o,none⟩)):=by
 rw[Ze (by rfl)];simp only[repD];exact⟨b,o,rfl,h⟩
theorem ZoQ{id v b o off k:Nat}(h:rowIs σ id v b o off):rowIs σ id v b (o+k) (off+k):=by
 obtain⟨v',s,st,e,d,h1,h2,h3⟩:=h;exact⟨v',s,st,e,d,h1,h2,λhv=>⟨(h3 hv).1,by rw[(h3 hv).2]⟩⟩
theorem ZGs{id v s lo c b o:Nat}(h:rowAt σ id v s lo (some ⟨b,o,none⟩) c)(hc:0 < c):rowIs σ id v b o (lo*s):=by
 obtain⟨v',s',st,e,d,h1,h2,h3⟩:=h;refine⟨v',s',st,e,d,h1,h2,λhv=> ?_⟩;obtain⟨_,h5⟩:=h3 hv;rcases h5 with⟨_,h6,_⟩|⟨b',cur,h6,h7,h8,h9⟩
 ·cases h6
 ·have:=h9 hc;cases this;exact⟨h6,rfl⟩
theorem Zv5{id v s lo c l:Nat}{A:Option Addr}(h:rowAt σ id v s lo A c)(hl:l≤c):rowAt σ id v s (lo+l) (if c=l then A else A.map (·.add (l*s))) (c - l):=by
 obtain⟨v',s',st,e,d,h1,h2,h3⟩:=h;refine⟨v',s',st,e,d,h1,h2,λhv=> ?_⟩;obtain⟨h4,h5⟩:=h3 hv;refine⟨h4, ?_⟩;rcases h5 with⟨h6,rfl,h7⟩|⟨b,cur,h6,h7,h8,h9⟩
 ·exact .inl ⟨h6,by simp,by omega⟩
 ·refine .inr ⟨b,cur,h6,h7,by rw[h8];congr 1;omega,λhc=> ?_⟩;rw[if_neg (by omega),h9 (by omega)];simp[Addr.add_mk,yat]
theorem ZGt{id v s lo n c l h:Nat}{A:Option Addr}(h2:n≤c)(h3:c≤maxLen)(h4:A=none→c=0)(h5:0 < c→∃b o,A=some ⟨b,o,none⟩)(h6:rowAt σ id v s lo A c)(hl:l≤h)(hh:h≤c):
 repDV σ (.rv id v s (lo+l) (h - l)) (.slice (if c=l then A else A.map (·.add (l*s))) (h - l) (c - l)):=by
 rw[Ze (by rfl)];simp only[repD];refine⟨_,_,rfl,by omega,by omega,λhA=> ?_,λhp=> ?_,Zv5 h6 (by omega)⟩
 ·split at hA
  ·omega
  ·have hA':A=none:=by simpa using hA
   have:=h4 hA';omega
 ·obtain⟨b,o,rfl⟩:=h5 (by omega);rw[if_neg (by omega)];exact⟨b,o+l*s,by simp[Addr.add_mk]⟩
theorem Zsl{f:yu}{cap:List Dv}{v:yh}(h:repDV σ (.fn f cap) v):∃fs cs,v=.func (.func (ZaC f)) fs cs∧(if f < big then fs else cs)= #[]∧repVs σ cap (fs++cs).toList:=by
 rw[Ze (by rfl)] at h;simpa[repD] using h
theorem ZLl{f:yu}{cap:List Dv}{v:yh}(hf:f < big)(h:repDV σ (.fn f cap) v):∃cs,v=.func (.func f) #[] cs∧repVs σ cap cs.toList:=by
 obtain⟨fs,cs,h1,h2,h3⟩:=Zsl h;rw[if_pos hf] at h2;subst h2;unfold ZaC at h1;rw[if_pos hf] at h1;rw[Array.empty_append] at h3;exact⟨cs,h1,h3⟩
theorem ZzM{t:yb}{x ix:yn}(ok:Ok σ)(hrep:RepT σ ts a)(ho:o.op=.indexAddr t x ix)(h:evN P o ts hs=some (C,d,hs'))(hc:AllP C):Ym P o a σ d σ.H:=by
 simp only[evN,ho] at h;have hx:=Zi (P:=P) hrep t x;have hix:=Zi (P:=P) hrep 0 ix
 have run:∀v,(Instr.indexAt t (a.eval x) (a.eval ix)).run P σ.w=.ok v σ.w→(execOp a.eval o).run P σ.w=.ok (.value v) σ.w:=λv hv=>by
  simp[execOp,ho,hv]
 split at h
 ·rename_i e nn s xs k i hu hdx hdi;rw[hdx] at hx;rw[hdi] at hix;split at h
  ·rename_i y hs'';split at h
   ·rename_i hk;simp only[yi,decide_eq_true_eq] at hk;simp only[yj,yl] at h;obtain⟨rfl,rfl,rfl⟩:=h;obtain⟨h1,A,c,hv,h2,h3,h4,h5,h6⟩:=Y9 hx;obtain⟨v,h7,h8⟩:=ZhC (k:=k) (c:=c) ok hu hk.1 hk.2 h1 h6 hc.1 hc.2.1;exact Zh ok (run v (by rw[hv,ZD hix];exact h7)) h8
   ·cases h
  ·cases h
 ·rename_i e id nn s xs k i hu hdx hdi;rw[hdx] at hx;rw[hdi] at hix;split at h
  ·rename_i y hs'';split at h
   ·rename_i hk;simp only[yi,decide_eq_true_eq] at hk;simp only[yj,yl] at h;obtain⟨rfl,rfl,rfl⟩:=h;obtain⟨h1,A,c,hv,h2,h3,h4,h5,h6,_⟩:=Qj hx;obtain⟨v,h7,h8⟩:=ZhC (k:=k) (c:=c) ok hu hk.1 hk.2 h1 h6 hc.1 hc.2.1;exact Zh ok (run v (by rw[hv,ZD hix];exact h7)) h8
   ·cases h
  ·cases h
 ·rename_i e id off path s lo n k i hu hdx hdi;rw[hdx] at hx;rw[hdi] at hix;split at h
  ·rename_i hk;simp only[yi,decide_eq_true_eq] at hk;simp only[yj,yl] at h;obtain⟨rfl,rfl,rfl⟩:=h;obtain⟨h0,h1,_⟩:=hc;obtain⟨b,c,aa,hm,hv,hx,h2,h3,h4⟩:=Zdp hx;have e1:=h4 (by omega);subst e1;refine Zh (v:=.pointer (some ⟨b,off+(lo+i.toNat)*s,none⟩)) ok (run _ ?_) ?_
   ·rw[hx,ZD hix];have hb:0≤i∧i < (n:Int):=⟨h0,h1⟩;simp[Instr.indexAt,asIntOf,run_underlying hu,hb,ZQ hk.2,hk.1,Addr.add_mk,yat,yce]
   ·rw[Ze (by rfl)];simp only[repD];exact⟨b,hm,hv,rfl⟩
  ·cases h
 ·rename_i e id v s lo n k i hu hdx hdi;rw[hdx] at hx;rw[hdi] at hix;split at h
  ·rename_i hk;simp only[yi,decide_eq_true_eq] at hk;simp only[yj,yl] at h;obtain⟨rfl,rfl,rfl⟩:=h;obtain⟨h0,h1,_⟩:=hc;obtain⟨A,c,hx,h2,h3,h4,h5,h6⟩:=Zfw hx;obtain⟨b,o',rfl⟩:=h5 (by omega);refine Zh (v:=.pointer (some ⟨b,o'+i.toNat*s,none⟩)) ok (run _ ?_) ?_
   ·rw[hx,ZD hix];have hb:0≤i∧i < (n:Int):=⟨h0,h1⟩;simp[Instr.indexAt,asIntOf,run_underlying hu,hb,ZQ hk.2,hk.1,Addr.add_mk]
   ·rw[yat];exact Zxo (ZoQ (ZGs h6 (by omega)))
  ·cases h
 ·rename_i n e id v off path k i hu hdx hdi;rw[hdx] at hx;rw[hdi] at hix;split at h
  ·rename_i hk;simp only[yj,yl] at h;obtain⟨rfl,rfl,rfl⟩:=h;obtain⟨h0,h1,_⟩:=hc;obtain⟨b,o',hx,h2⟩:=ZmV hx;refine Zh (v:=.pointer (some ⟨b,o'+i.toNat*P.cellsOf e,none⟩)) ok (run _ ?_) ?_
   ·rw[hx,ZD hix];have hb:0≤i∧i < (n:Int):=⟨h0,h1⟩;simp[Instr.indexAt,asIntOf,run_underlying hu,hb,ZQ hk,Instr.sureAddr,Addr.add_mk]
   ·exact Zxo (ZoQ h2)
  ·cases h
 ·rename_i n e id off path k i hu hdx hdi;rw[hdx] at hx;rw[hdi] at hix;split at h
  ·rename_i hk;simp only[yj,yl] at h;obtain⟨rfl,rfl,rfl⟩:=h;obtain⟨h0,h1,_⟩:=hc;obtain⟨b,hm,hv,hx⟩:=ZeK hx;refine Zh (v:=.pointer (some ⟨b,off+i.toNat*P.cellsOf e,none⟩)) ok (run _ ?_) ?_
   ·rw[hx,ZD hix];have hb:0≤i∧i < (n:Int):=⟨h0,h1⟩;simp[Instr.indexAt,asIntOf,run_underlying hu,hb,ZQ hk,Instr.sureAddr,Addr.add_mk]
   ·rw[Ze (by rfl)];simp only[repD];exact⟨b,hm,hv,rfl⟩
  ·cases h
 ·rename_i n e n' s xs k i hu hdx hdi;rw[hdx] at hx;rw[hdi] at hix;split at h
  ·rename_i y hs'';split at h
   ·rename_i hk;simp only[yi,decide_eq_true_eq] at hk;obtain⟨⟨rfl,hk⟩,hk2⟩:=hk;simp only[yj,yl] at h;obtain⟨rfl,rfl,rfl⟩:=h;obtain⟨h0,h1,_⟩:=hc;obtain⟨b,off,us,hx,h2,h3⟩:=ZiF hx;simp only[repC] at h2;obtain⟨h4,h5,h6⟩:=h2;obtain⟨uy,h7,h8⟩:=ZmT h5 h6 h3 h1;have hlt:i.toNat < xs.length:=(yo.1 h1).1;refine Zh (v:=.pointer (some ⟨b,off+i.toNat*s,none⟩)) ok (run _ ?_) ?_
    ·rw[hx,ZD hix];have hb:0≤i∧i < (n:Int):=⟨h0,by omega⟩;simp[Instr.indexAt,asIntOf,run_underlying hu,hb,ZQ hk2,hk,Instr.sureAddr,Addr.add_mk]
    ·rw[Ze (by rfl)];simp only[repD];exact⟨b,_,uy,rfl,h7,h8⟩
   ·cases h
  ·cases h
 ·cases h
theorem ZJl{t:yb}{x:yn}{lo hi:Option yn}(ok:Ok σ)(hrep:RepT σ ts a)(ho:o.op=.slice t x lo hi none)(h:evN P o ts hs=some (C,d,hs'))(hc:AllP C):Ym P o a σ d σ.H:=by
 simp only[evN,ho] at h;have hx:=Zi (P:=P) hrep t x
 have run:∀v,(Instr.sliceAt t (a.eval x) (lo.map a.eval) (hi.map a.eval) none).run P σ.w=.ok v σ.w→(execOp a.eval o).run P σ.w=.ok (.value v) σ.w:=λv hv=>by
  simp[execOp,ho,hv]
 split at h
 ·rename_i e nn s xs l r hu hdx hl hr;rw[hdx] at hx;split at h
  ·rename_i hk;simp only[yi,decide_eq_true_eq] at hk;simp only[yj,yl] at h;obtain⟨rfl,rfl,rfl⟩:=h;obtain⟨h1,A,c,hv,h2,h3,h4,h5,h6⟩:=Y9 hx;obtain⟨p,q,hb,h7,h8,rfl,rfl⟩:=V1 (P:=P) (w:=σ.w) true xs.length c _ _ _ _ (Yi hrep hl) (Yi hrep hr) hc h2;obtain⟨k1,k2,k3,k4,k5,k6,k7⟩:=ZrP h1 h2 h3 h5 h6 h7 h8;refine Zh ok (run _ (by rw[hv];simp[Instr.sliceAt,Instr.slice,run_underlying hu,hb,ZQ hk.2,hk.1];rfl)) ?_;rw[ZgN xs l r hc, ←k2];exact Z7 k1 (by rw[k2];exact k3) k4 (λb hb=>by rw[k5];exact h4 b hb) k6 k7
  ·cases h
 ·rename_i e id nn s xs l r hu hdx hl hr;rw[hdx] at hx;split at h
  ·rename_i hk;simp only[yi,decide_eq_true_eq] at hk;simp only[yj,yl] at h;obtain⟨rfl,rfl,rfl⟩:=h;obtain⟨h1,A,c,hv,h2,h3,h4,h5,h6,_⟩:=Qj hx;obtain⟨p,q,hb,h7,h8,rfl,rfl⟩:=V1 (P:=P) (w:=σ.w) true xs.length c _ _ _ _ (Yi hrep hl) (Yi hrep hr) hc h2;obtain⟨k1,k2,k3,k4,k5,k6,k7⟩:=ZrP h1 h2 h3 h5 h6 h7 h8;refine Zh ok (run _ (by rw[hv];simp[Instr.sliceAt,Instr.slice,run_underlying hu,hb,ZQ hk.2,hk.1];rfl)) ?_;rw[ZgN xs l r hc, ←k2];exact Z7 k1 (by rw[k2];exact k3) k4 (λb hb=>by rw[k5];exact h4 b hb) k6 k7
  ·cases h
 ·rename_i e id off path s lo n l r hu hdx hl hr;rw[hdx] at hx;split at h
  ·rename_i hk;simp only[yi,decide_eq_true_eq] at hk;simp only[yj,yl] at h;obtain⟨rfl,rfl,rfl⟩:=h;obtain⟨b,c,aa,hm,hv,hx,h2,h3,h4⟩:=Zdp hx;obtain⟨p,q,hb,h7,h8,rfl,rfl⟩:=V1 (P:=P) (w:=σ.w) true n c _ _ _ _ (Yi hrep hl) (Yi hrep hr) hc h2;refine Zh ok (run _ (by rw[hx];simp[Instr.sliceAt,Instr.slice,run_underlying hu,hb,ZQ hk.2,hk.1];rfl)) ?_;rw[Ze (by rfl)];simp only[repD];by_cases hcl:c=(l.getD 0).toNat
   ·exact⟨b,c - (l.getD 0).toNat,aa,hm,hv,by rw[if_pos hcl],by omega,by omega,λh0=>absurd h0 (by omega)⟩
   ·refine⟨b,c - (l.getD 0).toNat,aa.add ((l.getD 0).toNat*s),hm,hv,by rw[if_neg hcl],by omega,by omega,λh0=> ?_⟩;rw[h4 (by omega),Addr.add_mk,yat,yce]
  ·cases h
 ·rename_i e id v s lo n l r hu hdx hl hr;rw[hdx] at hx;split at h
  ·rename_i hs'';split at h
   ·rename_i hk;simp only[yi,decide_eq_true_eq] at hk;simp only[yj,yl] at h;obtain⟨rfl,rfl,rfl⟩:=h;obtain⟨A,c,hx,h2,h3,h4,h5,h6⟩:=Zfw hx;obtain⟨p,q,hb,h7,h8,rfl,rfl⟩:=V1 (P:=P) (w:=σ.w) true n c _ _ _ _ (Yi hrep hl) (Yi hrep hr) hc h2;refine Zh ok (run _ (by rw[hx];simp[Instr.sliceAt,Instr.slice,run_underlying hu,hb,ZQ hk.2,hk.1];rfl)) ?_;by_cases hz:0 < (r.getD (n:Int)).toNat - (l.getD 0).toNat
    ·obtain⟨b,o',rfl⟩:=h5 (by omega);exact ZGt h2 h3 h4 (λ_=>⟨b,o',rfl⟩) h6 h7 (by omega)
    ·rw[Ze (by rfl)];simp only[repD];refine⟨_,_,rfl,by omega,by omega,λhA=> ?_,λhp=>absurd hp hz,Zv5 h6 (by omega)⟩;split at hA
     ·omega
     ·have hA':A=none:=by simpa using hA
      have:=h4 hA';omega
   ·cases h
  ·cases h
 ·rename_i n e n' s xs l r hu hdx hl hr;rw[hdx] at hx;split at h
  ·rename_i hk;simp only[yi,decide_eq_true_eq] at hk;obtain⟨⟨⟨rfl,hk⟩,hk2⟩,hm⟩:=hk;simp only[yj,yl] at h;obtain⟨rfl,rfl,rfl⟩:=h;obtain⟨b,off,us,hx',h2,h3⟩:=ZiF hx;simp only[repC] at h2;obtain⟨h4,h5,h6⟩:=h2;subst h4;obtain⟨p,q,hb,h7,h8,rfl,rfl⟩:=V1 (P:=P) (w:=σ.w) false xs.length xs.length _ _ _ _ (Yi hrep hl) (Yi hrep hr) hc (ym _);obtain⟨k1,k2,k3,k4,k5,k6,k7⟩:=ZrP (A:=some ⟨b,off,none⟩) h5 (ym _) hm (λhA=>by cases hA) (λ_=>⟨b,off,us,rfl,h6,h3⟩) h7 h8;refine Zh ok (run _ (by rw[hx'];simp[Instr.sliceAt,Instr.sureAddr,run_underlying hu,hb,ZQ hk2,hk];rfl)) ?_;rw[ZgN xs l r hc, ←k2];have:=Z7 (σ:=σ) k1 (by rw[k2];exact k3) k4 (Qh k5) k6 k7;rw[k2] at this ⊢;simpa[apply_ite] using this
  ·cases h
 ·rename_i n e id off path l r hu hdx hl hr;rw[hdx] at hx;split at h
  ·rename_i hs'';split at h
   ·rename_i hk;simp only[yi,decide_eq_true_eq] at hk;obtain⟨hk,hm'⟩:=hk;simp only[yj,yl] at h;obtain⟨rfl,rfl,rfl⟩:=h;obtain⟨b,hm,hv,hx⟩:=ZeK hx;obtain⟨p,q,hb,h7,h8,rfl,rfl⟩:=V1 (P:=P) (w:=σ.w) false n n _ _ _ _ (Yi hrep hl) (Yi hrep hr) hc (ym _);refine Zh ok (run _ (by rw[hx];simp[Instr.sliceAt,Instr.sureAddr,run_underlying hu,hb,ZQ hk];rfl)) ?_;rw[Ze (by rfl)];simp only[repD];refine⟨b,_,_,hm,hv,rfl,by omega,by omega,λh0=> ?_⟩;rw[if_neg (by omega),Addr.add_mk]
   ·cases h
  ·cases h
 ·cases h
theorem ZzN{P:yg}{w:yy}(isSlice:Bool)(len cap:Nat){k1 k2 k3:IntKind}{l h m:Int}(h0:0≤l)(h1:l≤h)(h2:h≤m)(h3:m≤(cap:Int)):
 (Instr.sliceBounds isSlice len cap (some (.int k1 l)) (some (.int k2 h)) (some (.int k3 m))).run P w=.ok (l.toNat,h.toNat,m.toNat) w:=by
 have b1:0≤m∧m≤(cap:Int):=⟨by omega,h3⟩;have b2:0≤h∧h≤(m.toNat:Int):=⟨by omega,by omega⟩;have b3:0≤l∧l≤(h.toNat:Int):=⟨h0,by omega⟩;simp[Instr.sliceBounds,Instr.sliceBound,asIntOf,b1,b2,b3];rw[if_pos (by omega),if_pos (by omega)]
theorem ZGu{t:yb}{x:yn}{lo hi:Option yn}{mx:yn}(ok:Ok σ)(hrep:RepT σ ts a)(ho:o.op=.slice t x lo hi (some mx))(h:evN P o ts hs=some (C,d,hs'))(hc:AllP C):Ym P o a σ d σ.H:=by
 simp only[evN,ho] at h;have hx:=Zi (P:=P) hrep t x;split at h
 ·rename_i e id v s l0 n l r m hu hdx hl hr hm;rw[hdx] at hx;split at h
  ·rename_i hi';simp only[yj,yl] at h;obtain⟨rfl,rfl,rfl⟩:=h;obtain⟨c1,c2,c3,c4,_⟩:=hc;obtain⟨A,c,hx,h2,h3,_⟩:=Zfw hx;rcases Yi hrep hl with⟨_,q⟩|⟨k1,i1,e1,q1⟩
   ·cases q
   rcases Yi hrep hr with⟨_,q⟩|⟨k2,i2,e2,q2⟩
   ·cases q
   rcases Yi hrep hm with⟨_,q⟩|⟨k3,i3,e3,q3⟩
   ·cases q
   cases q1;cases q2;cases q3;have hb:=ZzN (P:=P) (w:=σ.w) true n c (k1:=k1) (k2:=k2) (k3:=k3) c1 c2 c3 (by omega:m≤(c:Int))
   have hrun:∃u,(Instr.sliceAt t (a.eval x) (lo.map a.eval) (hi.map a.eval) (some (a.eval mx))).run P σ.w=.ok u σ.w:=by
    have e3':a.eval mx=.int k3 m:=by simpa using e3
    rw[hx,e1,e2,e3'];exact⟨_,by simp[Instr.sliceAt,Instr.slice,run_underlying hu,hb,ZQ hi'];rfl⟩
   obtain⟨u,hrun⟩:=hrun;exact Zh (v:=u) ok (by simp[execOp,ho,hrun]) YN
  ·cases h
 ·cases h
end
end Go.Ev
end
section
namespace Go.Ev
theorem ZmW(off:Nat):∀(vs:List yh)(k:Nat)(cs:Array yh),off+k+vs.length≤cs.size→
 ((vs.zipIdx k).foldl (λcs q=>cs.setIfInBounds (off+q.2) q.1) cs).toList=cs.toList.take (off+k)++vs++cs.toList.drop (off+k+vs.length)
 |[],k,cs,_=>by simp
 |v::vs,k,cs,h=>by
  simp only[List.zipIdx_cons,List.foldl_cons,yai] at h ⊢;rw[ZmW off vs (k+1) _ (by simp;omega)];apply ybd;intro j;have hl:cs.toList.length=cs.size:=yas;simp only[Array.toList_setIfInBounds,List.getElem?_append,yr,yae,ybc,hl,ycd,ybg,List.getElem?_drop,yai];by_cases h1:j < off+k
  ·have e1:j < min (off+(k+1)) cs.size:=by omega
   have e2:j < min (off+k) cs.size:=by omega
   have e3:¬(off+k=j):=by omega
   have e4:j < off+(k+1):=by omega
   have e5:j < min (off+(k+1)) cs.size+vs.length:=by omega
   have e6:j < min (off+k) cs.size+(vs.length+1):=by omega
   simp[e1,e2,e3,e4,e5,e6,h1]
  ·by_cases h2:j=off+k
   ·subst h2;have e1:off+k < min (off+(k+1)) cs.size:=by omega
    have e2:¬(off+k < min (off+k) cs.size):=by omega
    have e3:min (off+k) cs.size=off+k:=by omega
    have e4:off+k < min (off+(k+1)) cs.size+vs.length:=by omega
    have e5:off+k < cs.size:=by omega
    have e6:off+k < off+(k+1):=by omega
    simp[e1,e3,e4,e5,e6]
   ·by_cases h3:j < off+(k+1)+vs.length
    ·have e1:¬(j < min (off+(k+1)) cs.size):=by omega
     have e2:¬(j < min (off+k) cs.size):=by omega
     have e3:min (off+k) cs.size=off+k:=by omega
     have e4:min (off+(k+1)) cs.size=off+(k+1):=by omega
     have e5:j < off+k+(vs.length+1):=by omega
     have e6:j < off+(k+1)+vs.length:=by omega
     have e7:j - (off+k)=(j - (off+(k+1)))+1:=by omega
     have e8:¬(j < off+(k+1)):=by omega
     simp[e3,e4,e5,e6,h1,e7,e8]
    ·have e1:min (off+k) cs.size=off+k:=by omega
     have e2:min (off+(k+1)) cs.size=off+(k+1):=by omega
     have e3:¬(j < off+(k+1)+vs.length):=by omega
     have e4:¬(j < off+k+(vs.length+1)):=by omega
     have e5:¬(off+k=off+(k+1)+vs.length+(j - (off+(k+1)+vs.length))):=by omega
     have e6:off+(k+1)+vs.length+(j - (off+(k+1)+vs.length))=off+k+(vs.length+1)+(j - (off+k+(vs.length+1))):=by omega
     simp only[e1,e2,e3,e4,if_false,e6];rw[if_neg (by omega)]
theorem ZGv(off:Nat)(vs cs:Array yh)(h:off+vs.size≤cs.size):
 (vs.zipIdx.foldl (λcs(q:yh×Nat)=>cs.setIfInBounds (off+q.2) q.1) cs).toList=cs.toList.take off++vs.toList++cs.toList.drop (off+vs.size):=by
 have:=ZmW off vs.toList 0 cs (by simpa using h);simp only[Nat.add_zero,yas] at this;rw[←this, ←Array.foldl_toList,Array.toList_zipIdx]
theorem ZaF:∀(ds:List Dv),Dv.sizes ds=(ds.map Dv.size).sum
 |[]=>rfl
 |d::ds=>by simp[Dv.sizes,ZaF ds]
theorem Zdq:∀(ds:List Pl),Pl.sizes ds=(ds.map Pl.size).sum
 |[]=>rfl
 |d::ds=>by simp[Pl.sizes,Zdq ds]
theorem ZpX{σ:Sg}{d:Dv}{v:yh}(hd:d.isAgg=true∨v.oneCell'=true)(h:repDV σ d v):repD σ d v.cells.toList:=by
 cases ha:d.isAgg with
 |true=>
  obtain⟨cs,rfl,h1⟩:=(ZZ ha).1 h
  exact h1
 |false=>
  have h1:=(Ze ha).1 h
  have:v.cells= #[v]:=by
   rcases hd with hd|hd
   ·rw[ha] at hd;cases hd
   ·cases v <;> first|rfl|(simp[Value.oneCell'] at hd)
  rw[this];exact h1
mutual
theorem Zkb{σ:Sg}:∀(d:Dv)(vs:List yh),d.solid=true→repD σ d vs→∀u,u∈vs→u.oneCell'=true
 |.p x,vs,_,h,u,hu=>by simp only[repD] at h;exact Zse x vs h u hu
 |.elem _,_,_,h,u,hu=>by simp only[repD] at h;obtain⟨b,o,us,rfl,_⟩:=h;cases yao.1 hu;rfl
 |.ref _ _ _,_,_,h,u,hu=>by simp only[repD] at h;obtain⟨b,_,_,rfl⟩:=h;cases yao.1 hu;rfl
 |.own _ _ _ _,_,_,h,u,hu=>by simp only[repD] at h;obtain⟨_,A,c,rfl,_⟩:=h;cases yao.1 hu;rfl
 |.view _ _ _ _ _ _,_,_,h,u,hu=>by simp only[repD] at h;obtain⟨b,c,a,_,_,rfl,_⟩:=h;cases yao.1 hu;rfl
 |.agg xs,vs,hs,h,u,hu=>by simp only[repD] at h;simp only[Dv.solid] at hs;exact solids_one xs vs hs h u hu
 |.arr n s xs,vs,hs,h,u,hu=>by simp only[repD] at h;simp only[Dv.solid] at hs;exact solids_one xs vs hs h.2.2 u hu
 |.fn _ _,_,_,h,u,hu=>by simp only[repD] at h;obtain⟨fs,cs,rfl,_⟩:=h;cases yao.1 hu;rfl
 |.iface _ _,_,_,h,u,hu=>by simp only[repD] at h;obtain⟨cs,rfl,_⟩:=h;cases yao.1 hu;rfl
 |.tup _,_,hs,_,_,_=>by simp[Dv.solid] at hs
 |.mp _,_,_,h,u,hu=>by simp only[repD] at h;obtain⟨b,_,_,rfl⟩:=h;cases yao.1 hu;rfl
 |.rv _ _ _ _ _,_,_,h,u,hu=>by simp only[repD] at h;obtain⟨A,c,rfl,_⟩:=h;cases yao.1 hu;rfl
 |.rref _ _ _ _,_,_,h,u,hu=>by simp only[repD] at h;obtain⟨b,o,rfl,_⟩:=h;cases yao.1 hu;rfl
 |.junk,_,hs,_,_,_=>by simp[Dv.solid] at hs
theorem solids_one{σ:Sg}:∀(ds:List Dv)(vs:List yh),Dv.solids ds=true→repDs σ ds vs→∀u,u∈vs→u.oneCell'=true
 |[],_,_,h,u,hu=>by simp only[repDs] at h;subst h;cases hu
 |x::xs,vs,hs,h,u,hu=>by
  simp only[Dv.solids,yi] at hs;simp only[repDs] at h;obtain⟨us,us',rfl,h1,h2⟩:=h;rcases List.mem_append.1 hu with h3|h3
  ·exact Zkb x us hs.1 h1 u h3
  ·exact solids_one xs us' hs.2 h2 u h3
end
theorem X7{σ:Sg}{d:Dv}{v:yh}(hs:d.solid=true)(h:repDV σ d v):repD σ d v.cells.toList:=by
 cases ha:d.isAgg with
 |true=>exact ZpX (.inl ha) h
 |false=>
  have h1:=(Ze ha).1 h;exact ZpX (.inr (Zkb d _ hs h1 v (by simp))) h
theorem Zdr{σ:Sg}{place:Nat→Option (Nat×Nat)}{sz:List Nat}(hp:∀i s,sz[i]? =some s→place i=some ((sz.take i).sum,s)):
 ∀(parts:List (Nat×Dv×yh))(ds ds':List Dv)(cells:Array yh),ds.map Dv.size=sz→repDs σ ds cells.toList→(∀q,q∈parts→q.2.1.solid=true∧repDV σ q.2.1 q.2.2)→
  ZaD ds (parts.map λq=>(q.1,q.2.1))=some ds'→∃cells',Instr.fill place cells (parts.map λq=>(q.1,q.2.2))=some cells'∧repDs σ ds' cells'.toList∧ds'.map Dv.size=sz
 |[],ds,ds',cells,hsz,hr,_,h=>by
  simp only[List.map_nil,ZaD,yj] at h;subst h
  exact⟨cells,rfl,hr,hsz⟩
 |(i,d,v)::rest,ds,ds',cells,hsz,hr,hq,h=>by
  simp only[yad,ZaD,yc] at h;obtain⟨ds1,h1,h2⟩:=h;unfold ZDL at h1;split at h1
  ·rename_i old hold;split at h1
   ·rename_i hsame;cases h1;obtain⟨a,b,c,e,ha,hb,hbl,h3,h4⟩:=Zdn hr hold;obtain⟨hd1,hd2⟩:=hq (i,d,v) (yap ..);have hcells:=X7 hd1 hd2;have hvl:v.cells.toList.length=d.size:=YZ _ _ hcells;have hi:i < ds.length:=(yo.1 hold).1;have hszi:sz[i]? =some d.size:=by rw[←hsz,yaf,hold];simp[hsame]
    have hpl:=hp i _ hszi;have hoff:(sz.take i).sum=a.length:=by rw[ha,ZaF, ←hsz,List.map_take]
    have hcs:cells.size=a.length+(b.length+c.length):=by
     rw[←yas,e];simp
    have hbl':b.length=d.size:=by rw[hbl,hsame]
    have hvs:v.cells.size=d.size:=by rw[←hvl,yas]
    have hrest:=Zdr hp rest (ds.set i d) ds' (v.cells.zipIdx.foldl (λcs(q:yh×Nat)=>cs.setIfInBounds (a.length+q.2) q.1) cells) (by
     rw[←hsz,List.map_set,hsame.symm];apply ybd;intro j;rw[ybg];split
     ·rename_i hij;subst hij;rw[yaf,hold];simp[hi]
     ·rfl) (by
     rw[ZGv _ _ _ (by omega),e];have e1:(a++(b++c)).take a.length=a:=by simp
     have e2:(a++(b++c)).drop (a.length+v.cells.size)=c:=by
      rw[hvs, ←hbl', ←yak, ←yr];simp
     rw[e1,e2,yak]
     have e3:ds.set i d=ds.take i++(d::ds.drop (i+1)):=by
      rw[List.set_eq_take_append_cons_drop,if_pos hi]
     rw[e3];refine QC h3 ?_;simp only[repDs];exact⟨_,_,rfl,hcells,h4⟩) (λq hq'=>hq q (yau _ hq')) h2
    obtain⟨cells',k1,k2,k3⟩:=hrest;refine⟨cells', ?_,k2,k3⟩;simp only[yad,Instr.fill,hpl,hoff];rw[if_neg (by simp;omega)];exact k1
   ·cases h1
  ·cases h1
theorem ZlL{σ:Sg}:∀{ds:List Dv}{xs:List Pl}{us:List yh},Zdi ds=some xs→repDs σ ds us→repCs σ.w σ.stab xs us
 |[],xs,us,h,hr=>by simp only[Zdi,yj] at h;subst h;simpa[repDs,repCs] using hr
 |d::ds,xs,us,h,hr=>by
  simp only[Zdi] at h;split at h
  ·rename_i x ys h1 h2;cases h;simp only[repDs] at hr;obtain⟨a,b,rfl,h3,h4⟩:=hr;simp only[repCs];refine⟨a,b,rfl, ?_,ZlL h2 h4⟩;unfold Dv.plain at h1;split at h1
   ·cases h1;simpa[repD] using h3
   ·cases h1;simp only[repD] at h3;obtain⟨k1,A,c,k2,k3,k4,k5,k6,k7,_⟩:=h3;simp only[repC];exact⟨k1,A,c,k2,k3,k4,k5,k6,k7⟩
   ·cases h1
  ·cases h
theorem ZpY:∀{ds:List Dv}{xs:List Pl},Zdi ds=some xs→xs.map Pl.size=ds.map Dv.size
 |[],xs,h=>by simp only[Zdi,yj] at h;subst h;rfl
 |d::ds,xs,h=>by
  simp only[Zdi] at h;split at h
  ·rename_i x ys h1 h2;cases h;simp only[yad,ZpY h2];congr 1;unfold Dv.plain at h1;split at h1 <;> first|(cases h1;rfl)|cases h1
  ·cases h
mutual
theorem Zkc:∀(d:Dv)(x:Pl),d.flat=some x→x.size=d.size
 |.p y,x,h=>by rw[Dv.flat] at h;cases h;rfl
 |.own id nn s xs,x,h=>by rw[Dv.flat] at h;cases h;rfl
 |.agg ds,x,h=>by
  rw[Dv.flat] at h
  cases h2:Dv.flats ds with
  |none=>rw[h2] at h;cases h
  |some xs=>
   rw[h2] at h;cases h;rw[Pl.size,Dv.size]
   exact flats_sizes ds xs h2
 |.elem _,x,h=>by simp[Dv.flat] at h
 |.ref _ _ _,x,h=>by simp[Dv.flat] at h
 |.view _ _ _ _ _ _,x,h=>by simp[Dv.flat] at h
 |.arr _ _ _,x,h=>by simp[Dv.flat] at h
 |.fn _ _,x,h=>by simp[Dv.flat] at h
 |.iface _ _,x,h=>by simp[Dv.flat] at h
 |.tup _,x,h=>by simp[Dv.flat] at h
 |.mp _,x,h=>by simp[Dv.flat] at h
 |.rv _ _ _ _ _,x,h=>by simp[Dv.flat] at h
 |.rref _ _ _ _,x,h=>by simp[Dv.flat] at h
 |.junk,x,h=>by simp[Dv.flat] at h
theorem flats_sizes:∀(ds:List Dv)(xs:List Pl),Dv.flats ds=some xs→Pl.sizes xs=Dv.sizes ds
 |[],xs,h=>by rw[Dv.flats] at h;cases h;rfl
 |d::ds,xs,h=>by
  rw[Dv.flats] at h;split at h
  ·rename_i x ys h1 h2;cases h;rw[Pl.sizes,Dv.sizes,Zkc d x h1,flats_sizes ds ys h2]
  ·cases h
end
theorem Zsm:∀{ds:List Dv}{xs:List Pl},Dv.flats ds=some xs→xs.map Pl.size=ds.map Dv.size
 |[],xs,h=>by rw[Dv.flats] at h;cases h;rfl
 |d::ds,xs,h=>by
  rw[Dv.flats] at h;split at h
  ·rename_i x ys h1 h2;cases h;simp only[yad,Zsm h2,Zkc d x h1]
  ·cases h
mutual
theorem Zsn:∀(d:Dv)(x:Pl),d.flat=some x→d.solid=true
 |.p y,x,h=>rfl
 |.own id nn s xs,x,h=>rfl
 |.agg ds,x,h=>by
  rw[Dv.flat] at h
  cases h2:Dv.flats ds with
  |none=>rw[h2] at h;cases h
  |some xs=>rw[Dv.solid];exact flats_solids ds xs h2
 |.elem _,x,h=>by simp[Dv.flat] at h
 |.ref _ _ _,x,h=>by simp[Dv.flat] at h
 |.view _ _ _ _ _ _,x,h=>by simp[Dv.flat] at h
 |.arr _ _ _,x,h=>by simp[Dv.flat] at h
 |.fn _ _,x,h=>by simp[Dv.flat] at h
 |.iface _ _,x,h=>by simp[Dv.flat] at h
 |.tup _,x,h=>by simp[Dv.flat] at h
 |.mp _,x,h=>by simp[Dv.flat] at h
 |.rv _ _ _ _ _,x,h=>by simp[Dv.flat] at h
 |.rref _ _ _ _,x,h=>by simp[Dv.flat] at h
 |.junk,x,h=>by simp[Dv.flat] at h
theorem flats_solids:∀(ds:List Dv)(xs:List Pl),Dv.flats ds=some xs→Dv.solids ds=true
 |[],xs,h=>rfl
 |d::ds,xs,h=>by
  rw[Dv.flats] at h;split at h
  ·rename_i x ys h1 h2;rw[Dv.solids,Zsn d x h1,flats_solids ds ys h2];rfl
  ·cases h
end
theorem ZpZ:∀{ds:List Dv}{xs:List Pl},Dv.flats ds=some xs→∀d,d∈ds→d.solid=true
 |[],_,_,d,hd=>by cases hd
 |x::ds,xs,h,d,hd=>by
  rw[Dv.flats] at h;split at h
  ·rename_i y ys h1 h2
   cases hd with
   |head=>exact Zsn _ _ h1
   |tail _ hd=>exact ZpZ h2 d hd
  ·cases h
theorem ZFe{σ:Sg}{ds:List Dv}{xs:List Pl}{us:List yh}(h:Dv.flats ds=some xs)(hr:repDs σ ds us):repCs σ.w σ.stab xs us:=flats_repD ds xs us h hr
theorem ZFf{σ:Sg}{ds:List Dv}{cs:Array yh}(hr:repDs σ ds cs.toList):repDV σ (ZzH ds) (.agg cs):=by
 unfold ZzH;split
 ·rename_i xs h;rw[ZZ rfl];exact⟨cs,rfl,by simp only[repD,repC];exact ZlL h hr⟩
 ·rw[ZZ rfl];exact⟨cs,rfl,by simp only[repD];exact hr⟩
theorem Zv6{P:yg}{σ:Sg}{t:yb}{d:Dv}(h:Yr P t=d)(hj:d≠ .junk):∃i v,P.info? t=some i∧i.zero=some v∧repDV σ d v:=by
 unfold Yr at h;split at h
 ·rename_i i hi;split at h
  ·rename_i v hv;exact⟨i,v,hi,hv,by rw[←h];exact Wh⟩
  ·exact absurd h.symm hj
 ·exact absurd h.symm hj
theorem Zv7{P:yg}:∀(fs:List Field),(∀f,f∈fs→(P.info? f.type).isSome=true)→
 fs.mapM (λf=>(P.info? f.type).map λi=>(f.offset,i.size))=some (fs.map λf=>(f.offset,P.cellsOf f.type))
 |[],_=>by simp
 |f::fs,h=>by
  have h1:=h f (yap ..)
  cases hi:P.info? f.type with
  |none=>simp[hi] at h1
  |some i=>
   simp[List.mapM_cons,hi,Zv7 fs (λg hg=>h g (yau _ hg)),Program.cellsOf]
section
variable{P:yg}{o:Oper}{a:Act}{σ:Sg}{ts:List Dv}{hs hs':List Hint}{C:List Prop}{d:Dv}
theorem ZgO(hrep:RepT σ ts a)(f:Nat→yb)(parts:List (Nat×yn))(hsol:ZbD (VD P ts f parts)=true):
 ∃qs:List (Nat×Dv×yh),(qs.map λq=>(q.1,q.2.1))=VD P ts f parts∧(qs.map λq=>(q.1,q.2.2))=parts.map (λq=>(q.1,a.eval q.2))∧(∀q,q∈qs→q.2.1.solid=true∧repDV σ q.2.1 q.2.2):=by
 refine⟨parts.map λq=>(q.1,Zp P ts (f q.1) q.2,a.eval q.2),by simp[VD],by simp,λq hq=> ?_⟩;obtain⟨x,hx,rfl⟩:=ybu.1 hq;refine⟨?_,Zi hrep _ _⟩;simp only[ZbD,VD,List.all_map,yba] at hsol;exact hsol x hx
theorem V2(n s i:Nat)(h:i≤n):((yab n s).take i).sum=i*s:=by
 rw[List.take_replicate,yav h,List.sum_replicate_nat]
theorem ZJm{t:yb}{parts:Array (Nat×yn)}(ok:Ok σ)(hrep:RepT σ ts a)(ho:o.op=.build t parts)(h:evN P o ts hs=some (C,d,hs')):Ym P o a σ d σ.H:=by
 simp only[evN,ho] at h
 have run:∀cells,P.built t (parts.map λq=>(q.1,a.eval q.2)).toList=some cells→(execOp a.eval o).run P σ.w=.ok (.value (.agg cells)) σ.w:=λcells hv=>by
  have:=run_build (P:=P) σ.w t (parts.map λq=>(q.1,a.eval q.2)) cells hv;simp[execOp,ho,this]
 split at h
 ·rename_i fs zs hu hz;split at h
  ·rename_i hk;simp only[yi,beq_iff_eq] at hk;obtain⟨⟨hsol,hlen⟩,hall⟩:=hk;simp only[yp,yl] at h;obtain⟨ds,hset,rfl,rfl,rfl⟩:=h;obtain⟨it,z,hit,hitz,hzr0⟩:=Zv6 (σ:=σ) hz (by simp);obtain⟨cs,rfl,hzr⟩:=(ZZ rfl).1 hzr0;simp only[repD,repC] at hzr
   have hf:∀i,i < fs.size→∃f z,fs[i]? =some f∧zs[i]? =some z∧f.offset=Pl.sizes (zs.take i)∧P.cellsOf f.type=z.size∧(P.info? f.type).isSome=true:=by
    intro i hi;have hi':i < zs.length:=by omega
    have h1:=yba.1 hall i (List.mem_range.2 hi');unfold ZeG at h1;have hzi:zs.getD i default=zs[i]:=by simp[List.getD,hi']
    rw[hzi] at h1;have hfi:fs[i]? =some fs[i]:=Array.getElem?_eq_getElem hi;rw[hfi] at h1;simp only[yi,beq_iff_eq] at h1;obtain⟨⟨⟨⟨⟨h2,h3⟩,h4⟩,_⟩,_⟩,_⟩:=h1;exact⟨fs[i],zs[i],hfi,yac hi',h2,h3,h4⟩
   have hmap:=Zv7 (P:=P) fs.toList (λf hf'=>by
    obtain⟨i,hi,rfl⟩:=List.getElem_of_mem hf';obtain⟨f,z,h1,_,_,_,h2⟩:=hf i (by simpa using hi)
    have:fs.toList[i]=f:=by
     have:=(Array.getElem?_eq_some_iff.1 h1).2;simpa using this
    rw[this];exact h2)
   obtain⟨qs,hq1,hq2,hq3⟩:=ZgO (P:=P) hrep (ZiD P t) parts.toList hsol;rw[←hq1] at hset
   obtain⟨cells',hfill,hr,_⟩:=Zdr (σ:=σ) (place:=((fs.toList.map λf=>(f.offset,P.cellsOf f.type)).toArray[·]?)) (sz:=zs.map Pl.size) (by
    intro i s hi;rw[yaf] at hi;obtain⟨z,hz1,hz2⟩:=yp.1 hi;have hi':i < zs.length:=(yo.1 hz1).1;obtain⟨f,z',h1,h2,h3,h4,_⟩:=hf i (by omega);rw[hz1] at h2;cases h2;have:fs.toList[i]? =some f:=by simpa using h1
    simp only[List.getElem?_toArray,yaf,this,Option.map_some,h3,h4,hz2,Zdq,List.map_take]) qs (zs.map .p) ds cs (by simp[Dv.size,Function.comp_def]) (ZcA.2 hzr) hq3 hset
   have hb:P.built t (parts.map λq=>(q.1,a.eval q.2)).toList=some cells':=by
    unfold Program.built;rw[hit,hu];simp only[hitz,hmap,Value.cells];rw[ycm, ←hq2];exact hfill
   exact Zh ok (run _ hb) (ZFf hr)
  ·cases h
 ·rename_i n e n' s zs hu hz;split at h
  ·rename_i hk;simp only[yi,decide_eq_true_eq] at hk;obtain⟨⟨hsol,hse⟩,hie⟩:=hk;simp only[yc] at h;obtain⟨ds,hset,h⟩:=h;obtain⟨it,z,hit,hitz,hzr0⟩:=Zv6 (σ:=σ) hz (by simp);obtain⟨cs,rfl,hzr⟩:=(ZZ rfl).1 hzr0;simp only[repD,repC] at hzr;obtain⟨hzl,hzs,hzr⟩:=hzr;obtain⟨qs,hq1,hq2,hq3⟩:=ZgO (P:=P) hrep (ZiD P t) parts.toList hsol;rw[←hq1] at hset
   have hszs:(zs.map Dv.p).map Dv.size=yab n' s:=by
    rw[←hzl];apply ybd;intro j;simp only[yaf,List.getElem?_replicate]
    cases hj:zs[j]? with
    |none=>
     have:=List.getElem?_eq_none_iff.1 hj
     simp;omega
    |some x=>
     have h1:=(yo.1 hj).1;simp[h1,Dv.size,hzs x (List.mem_of_getElem? hj)]
   obtain⟨cells',hfill,hr,hsz'⟩:=Zdr (σ:=σ) (place:=λi=>some (i*s,s)) (sz:=yab n' s) (by
    intro i s' hi;simp only[List.getElem?_replicate] at hi;split at hi
    ·cases hi;rw[V2 _ _ _ (by omega)]
    ·cases hi) qs (zs.map .p) ds cs hszs (ZcA.2 hzr) hq3 hset
   have hlen':ds.length=n':=by
    have:=congrArg List.length hsz';simpa using this
   have hall':∀x,x∈ds→x.size=s:=by
    intro x hx;have:x.size∈ds.map Dv.size:=List.mem_map_of_mem hx;rw[hsz'] at this;exact List.eq_of_mem_replicate this
   have hb:P.built t (parts.map λq=>(q.1,a.eval q.2)).toList=some cells':=by
    unfold Program.built;rw[hit,hu]
    cases hie':P.info? e with
    |none=>simp[hie'] at hie
    |some ie=>
     have:ie.size=s:=by rw[←hse];simp[Program.cellsOf,hie']
     simp only[hitz,hie',Value.cells,this];rw[ycm, ←hq2];exact hfill
   split at h
   ·rename_i xs hxs;simp only[yj,yl] at h;obtain⟨rfl,rfl,rfl⟩:=h;refine Zh ok (run _ hb) ?_;rw[ZZ rfl];have hps:=ZpY hxs
    refine⟨cells',rfl,by
     simp only[repD,repC];refine⟨?_, ?_,ZlL hxs hr⟩
     ·have:=congrArg List.length hps;simp only[yx] at this;rw[this,hlen']
     ·intro x hx;have:x.size∈xs.map Pl.size:=List.mem_map_of_mem hx;rw[hps,hsz'] at this;exact List.eq_of_mem_replicate this⟩
   ·simp only[yj,yl] at h;obtain⟨rfl,rfl,rfl⟩:=h;refine Zh ok (run _ hb) ?_;rw[ZZ rfl];exact⟨cells',rfl,by simp only[repD];exact⟨hlen',hall',hr⟩⟩
  ·cases h
 ·cases h
end
theorem ZlM(s:Nat):∀(new pre post:List Dv),post.length=new.length→(∀x,x∈post→x.size=s)→(∀x,x∈new→x.size=s)→
 ZaD (pre++post) ((List.range' pre.length new.length).zip new)=some (pre++new)
 |[],pre,post,hl,_,_=>by
  have:post=[]:=yaz (by simpa using hl);subst this
  simp[ZaD]
 |d::new,pre,[],hl,_,_=>by simp at hl
 |d::new,pre,q::post,hl,h1,h2=>by
  simp only[yai,List.range'_succ,List.zip_cons_cons,ZaD];have e:(pre++q::post)[pre.length]? =some q:=by simp
  have hs:q.size=d.size:=by rw[h1 q (yap ..),h2 d (yap ..)]
  have e2:(pre++q::post).set pre.length d=(pre++[d])++post:=by simp
  simp only[ZDL,e,hs,if_true,Option.bind_some,e2];have:=ZlM s new (pre++[d]) post (by simpa using hl) (λx hx=>h1 x (yau _ hx)) (λx hx=>h2 x (yau _ hx));simp only[yr,yai,ych,yax,yak,List.singleton_append] at this ⊢;exact this
theorem ZB3{α β γ:Type}(f:α→β)(g:α→γ):∀(l:List α),l.map (λq=>(f q,g q))=(l.map f).zip (l.map g)
 |[]=>rfl
 |x::l=>by simp[ZB3 f g l]
theorem Zv8{σ:Sg}:∀(us:List yh),repDs σ (yab us.length .junk) us
 |[]=>by simp[repDs]
 |u::us=>by
  simp only[yai,List.replicate_succ,repDs];exact⟨[u],us,rfl,by simp[repD],Zv8 us⟩
def ZmX(s:Nat):Dv:=.agg (yab s .junk)
theorem ZgP(s:Nat):(ZmX s).size=s:=by
 show Dv.sizes (yab s .junk)=s;rw[ZaF,List.map_replicate,List.sum_replicate_nat];simp[Dv.size]
theorem ZFg{σ:Sg}{s:Nat}{us:List yh}(h:us.length=s):repD σ (ZmX s) us:=by
 subst h;show repD σ (.agg (yab us.length .junk)) us;simp only[repD];exact Zv8 us
theorem ZlN{σ:Sg}{s:Nat}:∀(n:Nat)(us:List yh),us.length=n*s→repDs σ (yab n (ZmX s)) us
 |0,us,h=>by
  have:us=[]:=yaz (by simpa using h);subst this
  simp[repDs]
 |n+1,us,h=>by
  rw[yat,Nat.one_mul] at h;simp only[List.replicate_succ,repDs];exact⟨us.take s,us.drop s,(ybf s us).symm,ZFg (by rw[yae];omega),ZlN n _ (by rw[ybq];omega)⟩
section
variable{P:yg}{o:Oper}{a:Act}{σ:Sg}{ts:List Dv}{hs hs':List Hint}{C:List Prop}{d:Dv}
theorem ZFh(hrep:RepT σ ts a){e:yb}{s len:Nat}{parts:List (Nat×yn)}{xs:List Pl}(h:Y8 P ts e s len parts=some xs)(Z:Array yh)(hZ:Z.size=len*s):
 ∃cells:Array yh,Instr.fill (λi=>some (i*s,s)) Z (parts.map λq=>(q.1,a.eval q.2))=some cells∧repCs σ.w σ.stab xs cells.toList∧xs.length=len∧allSz s xs:=by
 unfold Y8 at h;split at h
 ·rename_i hr;have hr':parts.map (·.1)=yq len:=by simpa using hr
  split at h
  ·rename_i xs' hp;split at h
   ·rename_i hall;cases h
    have hsz:∀x,x∈xs→x.size=s:=by
     intro x hx;have:=yba.1 hall x hx;simpa using this
    have hps:=Zsm hp
    have hdl:(parts.map λq=>Zp P ts e q.2).length=len:=by
     have:=congrArg List.length hr';simpa using this
    have hds:∀x,x∈(parts.map λq=>Zp P ts e q.2)→x.size=s:=by
     intro x hx;have h1:x.size∈(parts.map λq=>Zp P ts e q.2).map Dv.size:=List.mem_map_of_mem hx;rw[←hps] at h1;obtain⟨y,hy,he⟩:=ybu.1 h1;rw[←he];exact hsz y hy
    have hxl:xs.length=len:=by
     have:=congrArg List.length hps;simp only[yx] at this;rw[this];simpa using hdl
    obtain⟨qs,hq1,hq2,hq3⟩:=ZgO (P:=P) hrep (λ_=>e) parts (by
     simp only[ZbD,VD,List.all_map,yba];intro q hq;exact ZpZ hp _ (List.mem_map_of_mem hq))
    have hset:ZaD (yab len (ZmX s)) (VD P ts (λ_=>e) parts)=some (parts.map λq=>Zp P ts e q.2):=by
     have h1:=ZlM s (parts.map λq=>Zp P ts e q.2) [] (yab len (ZmX s)) (by simpa using hdl.symm) (λx hx=>by rw[List.eq_of_mem_replicate hx,ZgP]) hds;simp only[yv,ych] at h1
     have h2:VD P ts (λ_=>e) parts=(List.range' 0 (parts.map λq=>Zp P ts e q.2).length).zip (parts.map λq=>Zp P ts e q.2):=by
      rw[hdl, ←List.range_eq_range', ←hr'];exact ZB3 _ _ parts
     rw[h2];exact h1
    rw[←hq1] at hset
    obtain⟨cells,hfill,hrd,_⟩:=Zdr (σ:=σ) (place:=λi=>some (i*s,s)) (sz:=yab len s) (by
     intro i s' hi;simp only[List.getElem?_replicate] at hi;split at hi
     ·cases hi;rw[V2 _ _ _ (by omega)]
     ·cases hi) qs (yab len (ZmX s)) _ Z (by simp[ZgP]) (ZlN len _ (by simpa using hZ)) hq3 hset
    refine⟨cells, ?_,ZFe hp hrd,hxl,λx hx=>hsz x hx⟩;rw[←hq2];exact hfill
   ·cases h
  ·cases h
 ·cases h
theorem ZB4(hrep:RepT σ ts a){e:yb}{s len:Nat}{parts:List (Nat×yn)}{ds:List Dv}(h:Zdb P ts e s len parts=some ds)(Z:Array yh)(hZ:Z.size=len*s):
 ∃cells:Array yh,Instr.fill (λi=>some (i*s,s)) Z (parts.map λq=>(q.1,a.eval q.2))=some cells∧repDs σ ds cells.toList∧ds.length=len∧(∀x,x∈ds→x.size=s):=by
 unfold Zdb at h;split at h
 ·rename_i hr;have hr':parts.map (·.1)=yq len:=by simpa using hr
  split at h
  ·rename_i hall;cases h
   have hal:∀x,x∈(parts.map λq=>Zp P ts e q.2)→x.solid=true∧x.size=s:=by
    intro x hx;have:=yba.1 hall x hx;simpa using this
   have hdl:(parts.map λq=>Zp P ts e q.2).length=len:=by
    have:=congrArg List.length hr';simpa using this
   have hds:∀x,x∈(parts.map λq=>Zp P ts e q.2)→x.size=s:=λx hx=>(hal x hx).2
   obtain⟨qs,hq1,hq2,hq3⟩:=ZgO (P:=P) hrep (λ_=>e) parts (by
    simp only[ZbD,VD,List.all_map,yba];intro q hq;exact(hal _ (List.mem_map_of_mem hq)).1)
   have hset:ZaD (yab len (ZmX s)) (VD P ts (λ_=>e) parts)=some (parts.map λq=>Zp P ts e q.2):=by
    have h1:=ZlM s (parts.map λq=>Zp P ts e q.2) [] (yab len (ZmX s)) (by simpa using hdl.symm) (λx hx=>by rw[List.eq_of_mem_replicate hx,ZgP]) hds;simp only[yv,ych] at h1
    have h2:VD P ts (λ_=>e) parts=(List.range' 0 (parts.map λq=>Zp P ts e q.2).length).zip (parts.map λq=>Zp P ts e q.2):=by
     rw[hdl, ←List.range_eq_range', ←hr'];exact ZB3 _ _ parts
    rw[h2];exact h1
   rw[←hq1] at hset
   obtain⟨cells,hfill,hrd,_⟩:=Zdr (σ:=σ) (place:=λi=>some (i*s,s)) (sz:=yab len s) (by
    intro i s' hi;simp only[List.getElem?_replicate] at hi;split at hi
    ·cases hi;rw[V2 _ _ _ (by omega)]
    ·cases hi) qs (yab len (ZmX s)) _ Z (by simp[ZgP]) (ZlN len _ (by simpa using hZ)) hq3 hset
   refine⟨cells, ?_,hrd,hdl,hds⟩;rw[←hq2];exact hfill
  ·cases h
 ·cases h
theorem ZiG{e t:yb}{i:TypeInfo}{len:Nat}{parts:Array (Nat×yh)}{Q:Array yh→Prop}(w:yy)(hu:P.underlying t=some (.slice e))(hi:P.info? e=some i)(hz:zOk i=true)
 (hsz:len*i.size≤16777216) (hfill:∀Z:Array yh,Z.size=len*i.size→∃cells,Instr.fill (λj=>some (j*i.size,i.size)) Z parts.toList=some cells∧Q cells):
 ∃cells,(Instr.buildSlice t len parts).run P w=.ok (.slice (some ⟨w.heap.size,0,none⟩) len len) (w.alloc (.cells cells e))∧Q cells:=by
 unfold zOk at hz;split at hz
 ·rename_i z hzz;have h1:¬(16777216 < len*i.size):=by omega
  by_cases h0:len*i.size=0
  ·obtain⟨cells,h2,hq⟩:=hfill ((Array.range (len*i.size)).map (#[][· % (#[]:Array yh).size]!)) (by simp);refine⟨cells, ?_,hq⟩;simp only[h0] at h2;simp[Instr.buildSlice,run_underlying hu,sizeOf,typeInfo,hi,h0,newRow];simp at h2;simp[h2]
  ·obtain⟨cells,h2,hq⟩:=hfill ((Array.range (len*i.size)).map (z.cells[· % z.cells.size]!)) (by simp);exact⟨cells,by simp[Instr.buildSlice,run_underlying hu,sizeOf,typeInfo,zeroValue,hi,hzz,h1,h0,newRow,h2],hq⟩
 ·cases hz
end
theorem getElem?_set_ne'{α:Type}{l:List α}{i j:Nat}{x:α}(h:i≠j):(l.set i x)[j]? =l[j]? :=by
 rw[ybg,if_neg h]
theorem getElem?_set_eq'{α:Type}{l:List α}{i:Nat}{x y:α}(h:l[i]? =some y):(l.set i x)[i]? =some x:=by
 rw[ybg,if_pos rfl,if_pos (yo.1 h).1]
theorem Yz{σ σ':Sg}(ok:Ok σ){id:Nat}{mi mi':Option Nat}{en en':Ent}(hH:σ.H[id]? =some en)(hm:σ.m[id]? =some mi)
 (eF:σ'.F=σ.F) (en_:σ'.B=σ.B) (eH:σ'.H=σ.H.set id en') (em:σ'.m=σ.m.set id mi')
 (hos:σ'.w.os=σ.w.os) (htape:σ'.w.tape=σ.w.tape) (hout:σ'.w.output=σ.w.output) (hsize:σ.w.heap.size≤σ'.w.heap.size)
 (hblk:∀b,b < σ.w.heap.size→mi≠some b→σ'.w.heap[b]? =σ.w.heap[b]?)
 (hown:∀b o v,mi=some b→en.unlocked o→σ.w.cell? ⟨b,o,none⟩=some v→σ'.w.cell? ⟨b,o,none⟩=some v)
 (hunl:∀o,mi'=mi→en.unlocked o→en'.unlocked o)
 (hmi:mi'=mi∨∃b',mi'=some b'∧σ.w.heap.size≤b'∧b' < σ'.w.heap.size)
 (hvar:(∃d st,en=.var d st)→mi'=mi∧∃d st,en'=.var d st)
 (hmap:(∃t kvs,en=.map t kvs)→mi'=mi∧∃t kvs,en'=.map t kvs)
 (hlog:∀s e xs,en=.log s e xs→∃xs',en'=.log s e xs'∧xs.length≤xs'.length∧(xs'.length=xs.length→mi'=mi∧∀b,b < σ.w.heap.size→σ'.w.heap[b]? =σ.w.heap[b]?))
 (hent:Leaf σ σ'→entOk σ' mi' en')
 (hrow:∀v s st e d,en=.row v s st e d→∃v' st' d',en'=.row v' s st' e d'∧v≤v'∧(v'=v→mi'=mi∧∀b cur,mi=some b→σ.w.heap[b]? =some (.cells cur e (0,0))→∃cur',σ'.w.heap[b]? =some (.cells cur' e (0,0))∧cur'.size=cur.size):=by
   intro _ _ _ _ _ h;cases h):To σ σ'∧Ok σ':=by
 have hlt:∀b,mi=some b→b < σ.w.heap.size:=λb h=>ok.lt id b (by rw[hm,h]);have mset:∀j,j≠id→σ'.m[j]? =σ.m[j]? :=λj hj=>by rw[em,getElem?_set_ne' (Ne.symm hj)]
 have mself:σ'.m[id]? =some mi':=by rw[em];exact getElem?_set_eq' hm
 have Hset:∀j,j≠id→σ'.H[j]? =σ.H[j]? :=λj hj=>by rw[eH,getElem?_set_ne' (Ne.symm hj)]
 have Hself:σ'.H[id]? =some en':=by rw[eH];exact getElem?_set_eq' hH
 have hob:∀j b,j≠id→σ.m[j]? =some (some b)→σ'.w.heap[b]? =σ.w.heap[b]? :=λj b hj h=>
  hblk b (ok.lt j b h) (λhe=>hj (ok.inj j id b h (by rw[hm,he])))
 have leaf:Leaf σ σ':=by
  refine⟨λb o v h1 h2=>⟨?_, ?_, ?_⟩,λj b h1 h2=> ?_,λj s len A c h1=> ?_,λj b h1 h2=> ?_,λj v s st e d h1=> ?_⟩
  ·by_cases hb:mi=some b
   ·exact hown b o v hb (h2.2 id en (by rw[hm,hb]) hH) h1
   ·rw[World.cell?_of_block (w:=σ.w) (hblk b (XH h1) hb)];exact h1
  ·rcases h2.1 with h3|h3
   ·exact .inl (by rw[eF];exact h3)
   ·exact .inr (by rw[en_];exact h3)
  ·intro j e hj he;by_cases hji:j=id
   ·subst hji;rw[mself] at hj;rw[Hself] at he;cases he;have hj':mi'=some b:=by simpa using hj
    rcases hmi with h3|⟨b',h3,h4,_⟩
    ·have hmb:mi=some b:=by rw[←h3,hj']
     exact hunl o h3 (h2.2 j en (by rw[hm,hmb]) hH)
    ·have:b'=b:=by rw[h3] at hj';exact ybe hj'
     have:=XH h1;omega
   ·rw[mset j hji] at hj;rw[Hset j hji] at he;exact h2.2 j e hj he
  ·by_cases hji:j=id
   ·subst hji;obtain⟨d,st,h2⟩:=h2;rw[hH] at h2;obtain⟨h3,d',st',h4⟩:=hvar ⟨d,st,ybe h2⟩;rw[hm] at h1;exact⟨by rw[mself,h3];exact h1,d',st',by rw[Hself,h4]⟩
   ·exact⟨by rw[mset j hji];exact h1,by rw[Hset j hji];exact h2⟩
  ·obtain⟨e,ys,h2,h3,h4⟩:=h1;by_cases hji:j=id
   ·subst hji;rw[hH] at h2;obtain⟨xs',k1,k2,k3⟩:=hlog s e ys (ybe h2);refine⟨e,xs',by rw[Hself,k1],by omega,λhl=> ?_⟩;obtain⟨k4,k5⟩:=k3 (by omega);rcases h4 (by omega) with⟨h5,h6⟩|⟨b,cur,h5,h6,h7,h8⟩
    ·exact .inl ⟨by rw[mself,k4, ←hm];exact h5,h6⟩
    ·exact .inr ⟨b,cur,by rw[mself,k4, ←hm];exact h5,h6,(k5 b (ok.lt j b h5)).trans h7,h8⟩
   ·refine⟨e,ys,by rw[Hset j hji];exact h2,h3,λhl=> ?_⟩;rcases h4 hl with⟨h5,h6⟩|⟨b,cur,h5,h6,h7,h8⟩
    ·exact .inl ⟨by rw[mset j hji];exact h5,h6⟩
    ·exact .inr ⟨b,cur,by rw[mset j hji];exact h5,h6,(hob j b hji h5).trans h7,h8⟩
  ·by_cases hji:j=id
   ·subst hji;obtain⟨d,st,h2⟩:=h2;rw[hH] at h2;obtain⟨h3,d',st',h4⟩:=hmap ⟨d,st,ybe h2⟩;rw[hm] at h1;exact⟨by rw[mself,h3];exact h1,d',st',by rw[Hself,h4]⟩
   ·exact⟨by rw[mset j hji];exact h1,by rw[Hset j hji];exact h2⟩
  ·by_cases hji:j=id
   ·subst hji;rw[hH] at h1;obtain⟨v',st',d',k1,k2,k3⟩:=hrow v s st e d (ybe h1);refine⟨v',st',d',by rw[Hself,k1],k2,λhv=> ?_⟩;obtain⟨k4,k5⟩:=k3 hv;exact⟨by rw[mself,k4, ←hm],λb cur hb hc=>k5 b cur (by rw[hm] at hb;exact ybe hb) hc⟩
   ·exact⟨v,st,d,by rw[Hset j hji];exact h1,ym _,λ_=>⟨mset j hji,λb cur hb hc=>⟨cur,(hob j b hji hb).trans hc,rfl⟩⟩⟩
 have hsame:∀j b,σ'.m[j]? =some (some b)→(σ.m[j]? =some (some b)∧(j=id→mi'=mi))∨(j=id∧σ.w.heap.size≤b∧b < σ'.w.heap.size):=by
  intro j b hj;by_cases hji:j=id
  ·subst hji;rw[mself] at hj;have hj':mi'=some b:=by simpa using hj
   rcases hmi with h3|⟨b',h3,h4,h5⟩
   ·exact .inl ⟨by rw[hm, ←h3,hj'],λ_=>h3⟩
   ·have:b'=b:=by rw[h3] at hj';exact ybe hj'
    subst this;exact .inr ⟨rfl,h4,h5⟩
  ·rw[mset j hji] at hj;exact .inl ⟨hj,λh=>absurd h hji⟩
 refine⟨⟨leaf,eF,en_,hos,htape,hout,hsize,λb hb hn=>hblk b hb (λhe=>hn id (by rw[hm,he])),λj b hj=> ?_,by rw[em,ybc];exact ym _⟩, ?_, ?_, ?_, ?_, ?_, ?_⟩
 ·rcases hsame j b hj with⟨h,_⟩|⟨_,h,_⟩
  ·exact .inl h
  ·exact .inr h
 ·rw[em,eH,ybc,ybc];exact ok.len
 ·intro i j b hi hj;rcases hsame i b hi with⟨h1,_⟩|⟨h1,h2,_⟩ <;> rcases hsame j b hj with⟨h3,_⟩|⟨h3,h4,_⟩
  ·exact ok.inj i j b h1 h3
  ·have:=ok.lt i b h1;omega
  ·have:=ok.lt j b h3;omega
  ·rw[h1,h3]
 ·intro i b hi;rcases hsame i b hi with⟨h1,_⟩|⟨_,_,h2⟩
  ·exact Nat.lt_of_lt_of_le (ok.lt i b h1) hsize
  ·exact h2
 ·intro i e a he ha;by_cases hji:i=id
  ·subst hji;rw[mself] at ha;rw[Hself] at he;cases he;cases ha;exact hent leaf
  ·rw[mset i hji] at ha;rw[Hset i hji] at he;exact ZaE leaf (λb hb=>hob i b hji (by rw[ha,hb])) (ok.ent i e a he ha)
 ·intro b hb;rw[en_];exact ok.new b (Nat.le_trans hsize hb)
 ·intro i b hi;rw[en_];rcases hsame i b hi with⟨h1,_⟩|⟨_,h1,_⟩
  ·exact ok.own i b h1
  ·exact ok.new b h1
theorem Xz{σ σ':Sg}(ok:Ok σ){mi:Option Nat}{en:Ent}(eF:σ'.F=σ.F)(en_:σ'.B=σ.B)(eH:σ'.H=σ.H++[en])(em:σ'.m=σ.m++[mi])
 (hg:σ.w.grownBy σ'.w none) (hmi:mi=none∨∃b,mi=some b∧σ.w.heap.size≤b∧b < σ'.w.heap.size) (hent:Leaf σ σ'→entOk σ' mi en):To σ σ'∧Ok σ':=by
 have hblk:∀b,b < σ.w.heap.size→σ'.w.heap[b]? =σ.w.heap[b]? :=λb hb=>hg.block b hb (by simp)
 have hml:∀j a,σ.m[j]? =some a→σ'.m[j]? =some a:=λj a h=>by
  rw[em,yah (yo.1 h).1];exact h
 have hHl:∀j e,σ.H[j]? =some e→σ'.H[j]? =some e:=λj a h=>by
  rw[eH,yah (yo.1 h).1];exact h
 have hmr:∀j a,σ'.m[j]? =some a→σ.m[j]? =some a∨(j=σ.m.length∧a=mi):=λj a h=>by
  rw[em] at h;rcases ybp j σ.m.length with h1|h1
  ·rw[yah h1] at h;exact .inl h
  ·rw[yam h1] at h;have hj:j - σ.m.length < 1:=(yo.1 h).1;have:j=σ.m.length:=by omega
   subst this;simp at h;exact .inr ⟨rfl,h.symm⟩
 have hHr:∀j e,σ'.H[j]? =some e→σ.H[j]? =some e∨(j=σ.H.length∧e=en):=λj a h=>by
  rw[eH] at h;rcases ybp j σ.H.length with h1|h1
  ·rw[yah h1] at h;exact .inl h
  ·rw[yam h1] at h;have hj:j - σ.H.length < 1:=(yo.1 h).1;have:j=σ.H.length:=by omega
   subst this;simp at h;exact .inr ⟨rfl,h.symm⟩
 have leaf:Leaf σ σ':=by
  refine⟨λb o v h1 h2=>⟨?_, ?_, ?_⟩,λj b h1 h2=> ?_,λj s len A c h1=> ?_,λj b h1 h2=> ?_,λj v s st e d h1=>⟨v,st,d,hHl _ _ h1,ym _,λ_=>⟨?_,λb cur hb hc=>⟨cur,(hblk b (ok.lt j b hb)).trans hc,rfl⟩⟩⟩⟩
  ·rw[World.cell?_of_block (w:=σ.w) (hblk b (XH h1))];exact h1
  ·rcases h2.1 with h3|h3
   ·exact .inl (by rw[eF];exact h3)
   ·exact .inr (by rw[en_];exact h3)
  ·intro j e hj he;rcases hmr j _ hj with h3|⟨h3,h4⟩
   ·rcases hHr j _ he with h5|⟨h5,_⟩
    ·exact h2.2 j e h3 h5
    ·have:=(yo.1 h3).1;have:=ok.len;omega
   ·rcases hmi with h5|⟨b',h5,h6,_⟩
    ·rw[h5] at h4;cases h4
    ·rw[h5] at h4;have:=XH h1;cases h4;omega
  ·obtain⟨d,st,h2⟩:=h2;exact⟨hml _ _ h1,d,st,hHl _ _ h2⟩
  ·obtain⟨e,ys,h2,h3,h4⟩:=h1;refine⟨e,ys,hHl _ _ h2,h3,λhl=> ?_⟩;rcases h4 hl with⟨h5,h6⟩|⟨b,cur,h5,h6,h7,h8⟩
   ·exact .inl ⟨hml _ _ h5,h6⟩
   ·exact .inr ⟨b,cur,hml _ _ h5,h6,(hblk b (ok.lt j b h5)).trans h7,h8⟩
  ·obtain⟨d,st,h2⟩:=h2;exact⟨hml _ _ h1,d,st,hHl _ _ h2⟩
  ·have hj:j < σ.m.length:=by rw[ok.len];exact(yo.1 h1).1
   rw[em,yah hj]
 refine⟨⟨leaf,eF,en_,hg.os,hg.tape,hg.output,hg.size,λb hb _=>hblk b hb,λj b hj=> ?_,by rw[em,yr];omega⟩, ?_, ?_, ?_, ?_, ?_, ?_⟩
 ·rcases hmr j _ hj with h|⟨_,h⟩
  ·exact .inl h
  ·rcases hmi with h5|⟨b',h5,h6,_⟩
   ·rw[h5] at h;cases h
   ·rw[h5] at h;cases h;exact .inr h6
 ·rw[em,eH,yr,yr,ok.len];rfl
 ·intro i j b hi hj;rcases hmr i _ hi with h1|⟨h1,h1'⟩ <;> rcases hmr j _ hj with h2|⟨h2,h2'⟩
  ·exact ok.inj i j b h1 h2
  ·have:=ok.lt i b h1;rcases hmi with h5|⟨b',h5,h6,_⟩
   ·rw[h5] at h2';cases h2'
   ·rw[h5] at h2';cases h2';omega
  ·have:=ok.lt j b h2;rcases hmi with h5|⟨b',h5,h6,_⟩
   ·rw[h5] at h1';cases h1'
   ·rw[h5] at h1';cases h1';omega
  ·rw[h1,h2]
 ·intro i b hi;rcases hmr i _ hi with h1|⟨_,h1⟩
  ·exact Nat.lt_of_lt_of_le (ok.lt i b h1) hg.size
  ·rcases hmi with h5|⟨b',h5,_,h6⟩
   ·rw[h5] at h1;cases h1
   ·rw[h5] at h1;cases h1;exact h6
 ·intro i e a he ha;rcases hHr i _ he with h1|⟨h1,h1'⟩ <;> rcases hmr i _ ha with h2|⟨h2,h2'⟩
  ·exact ZaE leaf (λb hb=>hblk b (ok.lt i b (by rw[h2,hb]))) (ok.ent i e a h1 h2)
  ·have:=(yo.1 h1).1;have:=ok.len;omega
  ·have:=(yo.1 h2).1;have:=ok.len;omega
  ·rw[h1',h2'];exact hent leaf
 ·intro b hb;rw[en_];exact ok.new b (Nat.le_trans hg.size hb)
 ·intro i b hi;rw[en_];rcases hmr i _ hi with h1|⟨_,h1⟩
  ·exact ok.own i b h1
  ·rcases hmi with h5|⟨b',h5,h6,_⟩
   ·rw[h5] at h1;cases h1
   ·rw[h5] at h1;cases h1;exact ok.new b h6
end Go.Ev
end
section
namespace Go.Ev
section
variable{P:yg}{o:Oper}{a:Act}{σ:Sg}{ts:List Dv}{hs hs':List Hint}{C:List Prop}{d:Dv}
theorem VH{i:TypeInfo}(h:zOk i=true):∃z,i.zero=some z∧z.cells.size=i.size:=by
 unfold zOk at h;split at h
 ·rename_i z hz;exact⟨z,hz,by simpa using h⟩
 ·cases h
structure Src(P:yg)(w:yy)(u:yb)(size:Nat)(S:yh)(m:Nat)(news:List yh):Prop where
 ty:(∃e',P.underlying u=some (.slice e'))∨P.underlying u=some .string
 len:∀w',(Builtin.lenOf S).run P w'=.ok m w'
 first:(Builtin.firstCells size m S).run P w=.ok news.toArray w
 firstd:(Builtin.firstCells size m S).run P w.drew=.ok news.toArray w.drew
 cells:news.length=m*size
theorem Zv9{w:yy}{S:Nat→Nat→Prop}{u e':yb}{s s':Nat}{xs:List Pl}{A:Option Addr}{c:Nat}(hu:P.underlying u=some (.slice e'))(hs:s'=s∨xs=[])(hsz:allSz s' xs)
 (hr:xs≠[]→∃b o us,A=some ⟨b,o,none⟩∧repCs w S xs us∧Xr w S b o us):
 ∃news,Src P w u s (.slice A xs.length c) xs.length news∧repCs w S xs news:=by
 rcases xs with _|⟨x,xs⟩
 ·refine⟨[],⟨.inl ⟨_,hu⟩,λw'=>rfl, ?_, ?_,by simp⟩,by simp[repCs]⟩
  ·cases A <;> simp[Builtin.firstCells,loadCells,loadCellsFrom]
  ·cases A <;> simp[Builtin.firstCells,loadCells,loadCellsFrom]
 ·have hss:s'=s:=by
   rcases hs with h|h
   ·exact h
   ·cases h
  subst hss;obtain⟨b,o,us,rfl,h1,h2⟩:=hr (by simp);have hl:us.length=(x::xs).length*s':=by rw[repCs_size _ _ h1,sizes_all hsz]
  refine⟨us,⟨.inl ⟨_,hu⟩,λw'=>rfl, ?_, ?_,hl⟩,h1⟩
  ·exact run_firstCells_some w s' _ ⟨b,o,none⟩ _ c us hl (λj v hv=>by rw[Addr.add_mk];exact(h2 j v hv).1)
  ·exact run_firstCells_some w.drew s' _ ⟨b,o,none⟩ _ c us hl (λj v hv=>by rw[Addr.add_mk];exact(h2 j v hv).1)
theorem Zso{w:yy}{t u ty e:yb}{i:TypeInfo}{S:yh}{news:List yh}(ht:P.underlying t=some (.slice e))(hi:P.info? e=some i)(hS:Src P w u i.size S 0 news):
 (Builtin.append_ #[t,u] ty #[.slice none 0 0,S]).run P w=.ok (.slice none 0 0) w:=by
 obtain⟨hty,hl,hf,hfd,hc⟩:=hS
 rcases hty with⟨e'',hu⟩|hu <;>
  (simp[Builtin.append_,run_underlying ht,run_underlying hu,sizeOf,typeInfo,hi,hl,hf])
theorem ZiH{w:yy}{t u ty e e':yb}{i:TypeInfo}{S:yh}{m:Nat}{news:List yh}(ht:P.underlying t=some (.slice e))(hi:P.info? e=some i)(hS:Src P w u i.size S m news)
 (h1:∀v,v∈news→v.oneCell'=true) {g n cap:Nat} {cur:Array yh} (hg:w.heap[g]? =some (.cells cur e' (0,0))) (hroom:n+m≤cap) (hcur:cur.size=cap*i.size):
 (Builtin.append_ #[t,u] ty #[.slice (some ⟨g,0,none⟩) n cap,S]).run P w=
   .ok (.slice (some ⟨g,0,none⟩) (n+m) cap) (w.setRow g (cur.toList.take (n*i.size)++news++cur.toList.drop (n*i.size+news.length)).toArray):=by
 obtain⟨hty,hl,hf,hfd,hc⟩:=hS;have hfit:n*i.size+news.length≤cur.size:=by rw[hc,hcur, ←yat];exact ycb _ hroom
 have hst:=run_storeCells_at P g (n*i.size) e' news 0 cur w hg (by simpa using hfit) h1;simp only[Nat.add_zero] at hst
 rcases hty with⟨e'',hu⟩|hu <;>
  (simp[Builtin.append_,run_underlying ht,run_underlying hu,sizeOf,typeInfo,hi,hl,hroom,hf,Addr.add_lit,hst])
theorem ZiI{w:yy}{t u ty e:yb}{i:TypeInfo}{z:yh}{S:yh}{m:Nat}{news olds:List yh}(ht:P.underlying t=some (.slice e))(hi:P.info? e=some i)(hz:i.zero=some z)
 (hS:Src P w u i.size S m news) {A:Option Addr} {n cap:Nat} (hold:(Builtin.firstCells i.size n (.slice A n cap)).run P w.drew=.ok olds.toArray w.drew) (hroom:cap < n+m)
 (h63:n+m≤maxLen) (hb:(n+m)*i.bytes≤Zo):
 (Builtin.append_ #[t,u] ty #[.slice A n cap,S]).run P w=
   .ok (.slice (some ⟨w.heap.size,0,none⟩) (n+m) (grownCap w (n+m) cap e)) (w.drew.alloc (.cells (olds.toArray++news.toArray++Builtin.zeroCells z.cells (grownCap w (n+m) cap e - (n+m))) e)):=by
 obtain⟨hty,hl,hf,hfd,hc⟩:=hS;have hn:¬(n+m≤cap):=by omega
 have h63':¬(9223372036854775807 < ((n:Int)+(m:Int))):=by
  simp only[maxLen] at h63;omega
 have hfit:=growslice_fits (old:=cap) hroom (by simpa[Zo] using hb);have h48':¬(281474976710656 < Builtin.nextslicecap (n+m) cap*i.bytes):=by omega
 rcases hty with⟨e'',hu⟩|hu <;>
  (simp[Builtin.append_,run_underlying ht,run_underlying hu,sizeOf,typeInfo,zeroValue,hi,hz,hl,hn,h63',h48',Question.forced,hfd,hold,newRow,grownCap]
   congr 2;apply Array.ext';simp[yak])
theorem Yu(w:yy)(ob:Obj)(row:Option Nat):w.grownBy (w.drew.alloc ob) row:=
 let h:=World.grownBy_alloc w.drew ob row
 ⟨h.os,h.tape,h.output,h.size,h.block⟩
theorem Qk(hrep:RepT σ ts a){s:Nat}{u ut:yb}{x:yn}{ys:List Pl}(h:ZeH P s u (Zp P ts ut x)=some ys):
 ∃news,Src P σ.w u s (a.eval x) ys.length news∧repCs σ.w σ.stab ys news∧(ys≠[]→allSz s ys):=by
 have hx:=Zi (P:=P) hrep ut x;unfold ZeH at h;split at h
 ·rename_i e nn s' xs hu hd;split at h
  ·rename_i hc;cases h;rw[hd] at hx;obtain⟨h1,A,c,hv,h2,h3,h4,h5,h6⟩:=Y9 hx;rw[hv]
   have hc':s'=s∨ys=[]:=by
    rcases hc with hc|hc
    ·exact .inl hc
    ·exact .inr (by simpa using hc)
   obtain⟨news,k1,k2⟩:=Zv9 (P:=P) (w:=σ.w) (c:=c) hu hc' h1 h6;refine⟨news,k1,k2,λhne=> ?_⟩;rcases hc' with hc|hc
   ·exact hc ▸ h1
   ·exact absurd hc hne
  ·cases h
 ·rename_i e id nn s' xs hu hd;split at h
  ·rename_i hc;cases h;rw[hd] at hx;obtain⟨h1,A,c,hv,h2,h3,h4,h5,h6,_⟩:=Qj hx;rw[hv];obtain⟨news,k1,k2⟩:=Zv9 (P:=P) (w:=σ.w) (c:=c) hu (.inl hc) h1 h6;exact⟨news,k1,k2,λ_=>hc ▸ h1⟩
  ·cases h
 ·rename_i z hu hd;split at h
  ·rename_i hc;cases h;subst hc;rw[hd] at hx;rw[Zdc hx];have hl:(z.data.toList.map λb=>Pl.int .u8 (b.toNat:Int)).length=z.size:=by rw[yx,yas];rfl
   refine⟨z.data.toList.map λb=>Value.int .u8 (b.toNat:Int),⟨.inr hu,λw'=>by rw[hl];rfl, ?_, ?_,by simp⟩, ?_,λ_=> ?_⟩
   ·rw[hl];have:=Go.Lib.run_firstCells_string (P:=P) σ.w 1 z;exact this
   ·rw[hl];have:=Go.Lib.run_firstCells_string (P:=P) σ.w.drew 1 z;exact this
   ·generalize z.data.toList=l
    induction l with
    |nil=>simp[repCs]
    |cons b r ih=>simp only[yad,repCs];exact⟨[.int .u8 b.toNat],_,rfl,by simp[repC],ih⟩
   ·intro q hq;obtain⟨b,_,rfl⟩:=ybu.1 hq;rfl
  ·cases h
 ·cases h
def Zsp(P:yg)(σ:Sg)(s:Nat)(u:yb)(S:yh)(ys:List Pl):Prop:=∃news,Src P σ.w u s S ys.length news∧repCs σ.w σ.stab ys news∧(ys≠[]→allSz s ys)
theorem Wt(ok:Ok σ)(hrep:RepT σ ts a){t u ty e:yb}{i:TypeInfo}{y:yn}{ys:List Pl}(ht:P.underlying t=some (.slice e))(hi:P.info? e=some i)(hz:zOk i=true)(hne:i.size≠0)
 (hsrc:Zsp P σ (P.cellsOf e) u (a.eval y) ys) (hb:ys.length*i.bytes≤Zo) (hm:ys.length≤maxLen):
 (ys=[]∧(Builtin.append_ #[t,u] ty #[.slice none 0 0,a.eval y]).run P σ.w=.ok (.slice none 0 0) σ.w)∨
 ∃news rest,ys≠[]∧allSz i.size ys∧repCs σ.w σ.stab ys news∧ys.length≤grownCap σ.w ys.length 0 e∧grownCap σ.w ys.length 0 e≤maxLen∧
  (news.toArray++rest:Array yh).size=grownCap σ.w ys.length 0 e*i.size∧
  (Builtin.append_ #[t,u] ty #[.slice none 0 0,a.eval y]).run P σ.w=.ok (.slice (some ⟨σ.w.heap.size,0,none⟩) ys.length (grownCap σ.w ys.length 0 e)) (σ.w.drew.alloc (.cells (news.toArray++rest) e)):=by
 have hce:P.cellsOf e=i.size:=by simp[Program.cellsOf,hi]
 rw[hce] at hsrc;obtain⟨news,hS,hr,hall⟩:=hsrc;rcases Nat.eq_zero_or_pos ys.length with h0|h0
 ·refine .inl ⟨yaz h0, ?_⟩;rw[h0] at hS;exact Zso ht hi hS
 ·have hys:ys≠[]:=by
   rintro rfl;simp at h0
  obtain⟨z,hzz,hzs⟩:=VH hz;have hg:=ZiI (P:=P) (ty:=ty) (A:=none) (n:=0) (cap:=0) (olds:=[]) ht hi hzz hS (by simp[Builtin.firstCells]) (by omega) (by omega) (by simpa using hb);simp only[yax] at hg;have hge:=grownCap_ge σ.w ys.length 0 e;refine .inr ⟨news,Builtin.zeroCells z.cells (grownCap σ.w ys.length 0 e - ys.length),hys,hall hys,hr,hge,grownCap_le_maxLen σ.w ys.length 0 e hm, ?_,by simpa using hg⟩;have hl:=hS.cells;simp only[Array.size_append,List.size_toArray,size_zeroCells,hzs,hl, ←yat];congr 1;omega
theorem Zde{σ':Sg}{b:Nat}{cells:List yh}{cs:Array yh}{t:yb}(hb:σ'.w.heap[b]? =some (.cells cs t (0,0)))(hst:∀o,o < cells.length→σ'.stab b o)(hp:cs.toList.take cells.length=cells):Xr σ'.w σ'.stab b 0 cells:=by
 intro j u hu;have hj:j < cells.length:=(yo.1 hu).1;rw[yax];refine⟨?_,hst j hj⟩;rw[cell_of_row σ'.w b j cs t (0,0) hb, ←ybr];rw[←hp,ycd,if_pos hj] at hu;exact hu
theorem Zsq{σ':Sg}{s:Nat}{xs:List Pl}{b c:Nat}{cells:List yh}{cs:Array yh}{t:yb}{nn:Option Bool}(hnn:Zq2 nn (some ⟨b,0,none⟩))(ok:Ok σ')(hall:allSz s xs)(hr:repCs σ'.w σ'.stab xs cells)(hb:σ'.w.heap[b]? =some (.cells cs t (0,0)))
 (hnew:σ'.B b) (hun:∀(id:Nat),σ'.m[id]? ≠some (some b)) (hp:cs.toList.take cells.length=cells) (hc:xs.length≤c) (hm:c≤maxLen):repDV σ' (.p (.sl nn s xs)) (.slice (some ⟨b,0,none⟩) xs.length c):=
 Z7 hall hc hm hnn (by simp) (λ_=>⟨b,0,cells,rfl,hr,Zde hb (λo _=>ZzL ok hnew hun) hp⟩)
theorem Zp0{s:Nat}{v:yh}(h:repDV σ (.p (.sl (some false) s [])) v):v=.slice none 0 0:=by
 obtain⟨_,A,c,rfl,_,_,hA,hc,_⟩:=Y9 h;have:A=none:=by simpa using hA false rfl
 subst this;rw[hc rfl];rfl
theorem Z1{x y:yn}{t u:yb}{c:Call}(ho:o.op=.call c)(hc:c.callee=.builtin .append)(hargs:c.args.toList=[x,y])(htys:c.argTypes.toList=[t,u]){v:yh}{w':yy}
 (h:(Builtin.append_ #[t,u] o.type #[a.eval x,a.eval y]).run P σ.w=.ok v w'):(execOp a.eval o).run P σ.w=.ok (.value v) w':=by
 have h1:c.args= #[x,y]:=by rw[←ybx (xs:=c.args),hargs]
 have h2:c.argTypes= #[t,u]:=by rw[←ybx (xs:=c.argTypes),htys]
 simp[execOp,ho,resolve,hc,h1,h2,invoke,builtin,h]
theorem Zds{x:yn}{t:yb}{c:Call}(ho:o.op=.call c)(hc:c.callee=.builtin .len)(hargs:c.args.toList=[x])(htys:c.argTypes.toList=[t]){v:yh}
 (h:(Builtin.len_ #[t] o.type #[a.eval x]).run P σ.w=.ok v σ.w):(execOp a.eval o).run P σ.w=.ok (.value v) σ.w:=by
 have h1:c.args= #[x]:=by rw[←ybx (xs:=c.args),hargs]
 have h2:c.argTypes= #[t]:=by rw[←ybx (xs:=c.argTypes),htys]
 simp[execOp,ho,resolve,hc,h1,h2,invoke,builtin,h]
theorem ZGw{x y:yn}{t u:yb}{c:Call}(ho:o.op=.call c)(hc:c.callee=.builtin .max)(hargs:c.args.toList=[x,y])(htys:c.argTypes.toList=[t,u]){v:yh}
 (h:(Builtin.max_ #[t,u] o.type #[a.eval x,a.eval y]).run P σ.w=.ok v σ.w):(execOp a.eval o).run P σ.w=.ok (.value v) σ.w:=by
 have h1:c.args= #[x,y]:=by rw[←ybx (xs:=c.args),hargs]
 have h2:c.argTypes= #[t,u]:=by rw[←ybx (xs:=c.argTypes),htys]
 simp[execOp,ho,resolve,hc,h1,h2,invoke,builtin,h]
theorem ZcD(ok:Ok σ)(id:Nat):σ.m[id]? ≠some (some σ.w.heap.size):=λh=>by
 have:=ok.lt id _ h;omega
theorem Zu0(ok:Ok σ)(hrep:RepT σ ts a){c:Call}{x y:yn}{t u e:yb}{i:TypeInfo}{ys:List Pl}(ho:o.op=.call c)(hcal:c.callee=.builtin .append)(hargs:c.args.toList=[x,y])
 (htys:c.argTypes.toList=[t,u]) (ht:P.underlying t=some (.slice e)) {s:Nat} (hx:Zp P ts t x=.p (.sl (some false) s [])) (hi:P.info? e=some i) (hz:zOk i=true) (hne:i.size≠0)
 (hsrc:ZeH P (P.cellsOf e) u (Zp P ts u y)=some ys) (hb:ys.length*i.bytes≤Zo) (hm:ys.length≤maxLen):Ym P o a σ (.p (.sl none (P.cellsOf e) ys)) σ.H:=by
 have hxv:=Zi (P:=P) hrep t x;rw[hx] at hxv;have hxn:=Zp0 hxv;have hce:P.cellsOf e=i.size:=by simp[Program.cellsOf,hi]
 rcases Wt (P:=P) (ty:=o.type) ok hrep ht hi hz hne (Qk (P:=P) hrep hsrc) hb hm with⟨rfl,hrun⟩|⟨news,rest,hys,hall,hr,hge,hcm,hcs,hrun⟩
 ·refine Zh ok (Z1 ho hcal hargs htys (by rw[hxn];exact hrun)) ?_;exact Z7 (λ_ hx=>by cases hx) (ym _) (by simp[maxLen]) (ZY _) (λ_=>rfl) (λh=>absurd rfl h)
 ·obtain⟨to,ok'⟩:=ZmU ok (Yu σ.w (.cells (news.toArray++rest) e) none);refine ZE (σ':={ σ with w:=σ.w.drew.alloc (.cells (news.toArray++rest) e)}) (Z1 ho hcal hargs htys (by rw[hxn];exact hrun)) to ok' ?_;rw[hce];have hlen:news.length=ys.length*i.size:=by rw[repCs_size _ _ hr,sizes_all hall]
  refine Zsq (ZY _) ok' hall (repCs_mono to.leaf.cells _ _ hr) (b:=σ.w.heap.size) (cells:=news) (heap_alloc_new σ.w.drew _) (ok.new _ (ym _)) (ZcD ok) (by simp) hge hcm
theorem Zxp(ok:Ok σ)(hrep:RepT σ ts a){c:Call}{x y:yn}{t u e:yb}{i:TypeInfo}{ys:List Pl}(ho:o.op=.call c)(hcal:c.callee=.builtin .append)(hargs:c.args.toList=[x,y])
 (htys:c.argTypes.toList=[t,u]) (ht:P.underlying t=some (.slice e)) {s:Nat} (hx:Zp P ts t x=.p (.sl (some false) s [])) (hi:P.info? e=some i) (hz:zOk i=true) (hne:i.size≠0)
 (hsrc:ZeH P (P.cellsOf e) u (Zp P ts u y)=some ys) (hb:ys.length*i.bytes≤Zo) (hm:ys.length≤maxLen):Ym P o a σ (.own σ.H.length none i.size ys) (σ.H++[.log i.size e ys]):=by
 have hxv:=Zi (P:=P) hrep t x;rw[hx] at hxv;have hxn:=Zp0 hxv;rcases Wt (P:=P) (ty:=o.type) ok hrep ht hi hz hne (Qk (P:=P) hrep hsrc) hb hm with⟨rfl,hrun⟩|⟨news,rest,hys,hall,hr,hge,hcm,hcs,hrun⟩
 ·obtain⟨to,ok'⟩:=Xz (σ':={ σ with m:=σ.m++[none],H:=σ.H++[.log i.size e []]}) ok rfl rfl rfl rfl (World.grownBy.refl σ.w none) (.inl rfl) (λ_=>.inl ⟨rfl,rfl⟩);refine ZE (σ':={ σ with m:=σ.m++[none],H:=σ.H++[.log i.size e []]}) (Z1 ho hcal hargs htys (by rw[hxn];exact hrun)) to ok' ?_;rw[Ze rfl];simp only[repD];refine⟨λ_ hx=>(by cases hx),none,0,rfl,ym _,by simp[maxLen],ZY _,λ_=>rfl,λh=>absurd rfl h,e,[],by simp,ym _,λ_=>.inl ⟨?_,rfl,rfl⟩⟩;rw[yam (by rw[ok.len];exact ym _),ok.len];simp
 ·let σ':Sg:={ σ with m:=σ.m++[some σ.w.heap.size],H:=σ.H++[.log i.size e ys],w:=σ.w.drew.alloc (.cells (news.toArray++rest) e)};have hlen:news.length=ys.length*i.size:=by rw[repCs_size _ _ hr,sizes_all hall]
  have hblk:σ'.w.heap[σ.w.heap.size]? =some (.cells (news.toArray++rest) e (0,0)):=heap_alloc_new σ.w.drew _
  have hmlast:σ'.m[σ.H.length]? =some (some σ.w.heap.size):=by
   show(σ.m++[some σ.w.heap.size])[σ.H.length]? =_;rw[yam (by rw[ok.len];exact ym _),ok.len];simp
  obtain⟨to,ok'⟩:=Xz (σ':=σ') ok rfl rfl rfl rfl (Yu σ.w (.cells (news.toArray++rest) e) none) (.inr ⟨_,rfl,ym _,by simp[σ']⟩)
   (λleaf=>.inr ⟨σ.w.heap.size,_,grownCap σ.w ys.length 0 e,rfl,hblk,hcs,hge,hcm,hall,by
     rw[←hlen];simpa using repCs_mono leaf.cells _ _ hr⟩)
  refine ZE (σ':=σ') (Z1 ho hcal hargs htys (by rw[hxn];exact hrun)) to ok' ?_;have hemp:(!ys.isEmpty)=true:=by cases ys <;> first|exact absurd rfl hys|rfl
  rw[Ze rfl];simp only[repD]
  refine⟨hall,_,_,rfl,hge,hcm,ZY _,λh=>(by cases h),λ_=>⟨σ.w.heap.size,0,news,rfl,repCs_mono to.leaf.cells _ _ hr,Zde hblk (λo ho=>⟨.inr (ok.new _ (ym _)),λid e' h1 h2=> ?_⟩) (by simp)⟩,
   e,ys,by simp[σ'],ym _,λ_=>.inr ⟨_,_,hmlast,rfl,hblk,hcs⟩⟩
  have:id=σ.H.length:=ok'.inj id σ.H.length _ h1 hmlast;subst this;have h3:σ'.H[σ.H.length]? =some (.log i.size e ys):=by simp[σ']
  rw[h3] at h2;cases h2;show o < ys.length*i.size;omega
theorem Zxq(ok:Ok σ)(hrep:RepT σ ts a){c:Call}{x y:yn}{t u e:yb}{i:TypeInfo}{xs ys:List Pl}{id s:Nat}{nn:Option Bool}(ho:o.op=.call c)(hcal:c.callee=.builtin .append)
 (hargs:c.args.toList=[x,y]) (htys:c.argTypes.toList=[t,u]) (ht:P.underlying t=some (.slice e)) (hx:Zp P ts t x=.own id nn s xs) (hi:P.info? e=some i) (hz:zOk i=true) (hs:i.size=s) (hne:s≠0)
 (hsrc:Zsp P σ s u (a.eval y) ys) (hH:σ.H[id]? =some (.log s e xs)) (hb:(xs.length+ys.length)*i.bytes≤Zo) (hm:xs.length+ys.length≤maxLen):
 Ym P o a σ (.own id none s (xs++ys)) (σ.H.set id (.log s e (xs++ys))):=by
 subst hs;have hxv:=Zi (P:=P) hrep t x;rw[hx] at hxv;obtain⟨h1,A,cp,hv,h2,h3,h4,h5,h6,e0,ys0,h7,h8,h9⟩:=Qj hxv;rw[hH] at h7;cases h7;have hsrc2:=hsrc;obtain⟨news,hS,hr,hall⟩:=hsrc2;obtain⟨z,hzz,hzs⟩:=VH hz;have hH':=hH;have hidlt:id < σ.m.length:=by rw[ok.len];exact(yo.1 hH).1
 have hmi:σ.m[id]? =some σ.m[id]:=yac hidlt;have hent:=ok.ent id _ _ hH hmi
 have hall':allSz i.size (xs++ys):=by
  by_cases hy:ys=[]
  ·subst hy;simpa using h1
  ·exact Xx h1 (hall hy)
 have hnl:news.length=ys.length*i.size:=hS.cells;have hone:∀v,v∈news→v.oneCell'=true:=repCs_one _ _ hr;have hlen:(xs++ys).length=xs.length+ys.length:=yr;rcases h9 rfl with⟨k1,rfl,rfl⟩|⟨b,cur,k1,rfl,k3,k4⟩
 ·
  have hxs:xs=[]:=by
   rw[hmi] at k1;rcases hent with⟨_,h⟩|⟨b,cur,cap,h,_⟩
   ·exact h
   ·rw[h] at k1;cases k1
  subst hxs;have hmn:σ.m[id]=none:=by rw[hmi] at k1;exact ybe k1
  skip
  skip
  rcases Wt (P:=P) (ty:=o.type) (u:=u) (y:=y) (ys:=ys) ok hrep ht hi hz hne (by simpa[Program.cellsOf,hi] using hsrc) (by simpa using hb) (by simpa using hm) with⟨rfl,hrun⟩|⟨news',rest,hys,hall2,hr2,hge,hcm,hcs,hrun⟩
  ·obtain⟨to,ok'⟩:=Yz (σ':={ σ with m:=σ.m.set id none,H:=σ.H.set id (.log i.size e ([]++[]))}) (mi:=none) (mi':=none) ok hH (by rw[hmi,hmn]) rfl rfl rfl rfl rfl rfl rfl (ym _)
    (λ_ _ _=>rfl) (λb o v h=>by cases h) (λo _ h=>h) (.inl rfl) (λ⟨d,st,h⟩=>by cases h) (λ⟨d,st,h⟩=>by cases h) (λs e' xs h=>⟨[],by cases h;rfl,by cases h;exact ym _,λ_=>⟨rfl,λ_ _=>rfl⟩⟩) (λ_=>.inl ⟨rfl,rfl⟩)
   refine ZE (σ':={ σ with m:=σ.m.set id none,H:=σ.H.set id (.log i.size e ([]++[]))}) (Z1 ho hcal hargs htys (by rw[hv];exact hrun)) to ok' ?_;rw[Ze rfl];simp only[repD];exact⟨λ_ hx=>(by cases hx),none,0,rfl,ym _,by simp[maxLen],ZY _,λ_=>rfl,λh=>absurd rfl h,e,[],getElem?_set_eq' hH,ym _,λ_=>.inl ⟨getElem?_set_eq' hmi,rfl,rfl⟩⟩
  ·let σ':Sg:={ σ with m:=σ.m.set id (some σ.w.heap.size),H:=σ.H.set id (.log i.size e ([]++ys)),w:=σ.w.drew.alloc (.cells (news'.toArray++rest) e)};have hl2:news'.length=ys.length*i.size:=by rw[repCs_size _ _ hr2,sizes_all hall2]
   have hblk:σ'.w.heap[σ.w.heap.size]? =some (.cells (news'.toArray++rest) e (0,0)):=heap_alloc_new σ.w.drew _;have hg:=Yu σ.w (.cells (news'.toArray++rest) e) none;have hblk':∀b,b < σ.w.heap.size→σ'.w.heap[b]? =σ.w.heap[b]? :=λb hb=>hg.block b hb (by simp);have hmset:σ'.m[id]? =some (some σ.w.heap.size):=getElem?_set_eq' hmi;have hHset:σ'.H[id]? =some (.log i.size e ([]++ys)):=getElem?_set_eq' hH
   obtain⟨to,ok'⟩:=Yz (σ':=σ') (mi:=none) (mi':=some σ.w.heap.size) ok hH (by rw[hmi,hmn]) rfl rfl rfl rfl rfl rfl rfl hg.size
    (λb hb _=>hblk' b hb) (λb o v h=>by cases h) (λo h _=>by cases h) (.inr ⟨_,rfl,ym _,by simp[σ']⟩) (λ⟨d,st,h⟩=>by cases h) (λ⟨d,st,h⟩=>by cases h)
    (λs' e' xs' h=>⟨ys,by cases h;rfl,by cases h;exact Nat.zero_le _,λhh=>by
      cases h;exact absurd (yaz (by simpa using hh)) hys⟩)
    (λleaf=>.inr ⟨σ.w.heap.size,_,grownCap σ.w ys.length 0 e,rfl,hblk,hcs,hge,hcm,hall2,by
      show repCs σ'.w σ'.stab ([]++ys) _;rw[yv, ←hl2];simpa using repCs_mono leaf.cells _ _ hr2⟩)
   refine ZE (σ':=σ') (Z1 ho hcal hargs htys (by rw[hv];exact hrun)) to ok' ?_;have hemp:(!ys.isEmpty)=true:=by cases ys <;> first|exact absurd rfl hys|rfl
   rw[Ze rfl];simp only[repD]
   refine⟨hall2,_,_,rfl,hge,hcm,ZY _,λh=>(by cases h),λ_=>⟨σ.w.heap.size,0,news',rfl,repCs_mono to.leaf.cells _ _ hr2,Zde hblk (λo ho=>⟨.inr (ok.new _ (ym _)),λj e' g1 g2=> ?_⟩) (by simp)⟩,
    e,_,hHset,ym _,λ_=>.inr ⟨_,_,hmset,rfl,hblk,hcs⟩⟩
   have:j=id:=ok'.inj j id _ g1 hmset;subst this;rw[hHset] at g2;cases g2;show o < ([]++ys).length*i.size;rw[yv];omega
 ·have hmb:σ.m[id]=some b:=by rw[hmi] at k1;exact ybe k1
  rcases hent with⟨h,_⟩|⟨b',cur',cap,h,g3,g4,g5,g6,g7,g8⟩
  ·rw[h] at hmb;cases hmb
  ·rw[hmb] at h;cases h;rw[k3] at g3;cases g3
   have hcap:cp=cap:=by
    have:cp*i.size=cap*i.size:=by rw[←k4, ←g4]
    exact Nat.eq_of_mul_eq_mul_right (Nat.pos_of_ne_zero hne) this
   subst hcap;have hus:(cur.toList.take (xs.length*i.size)).length=xs.length*i.size:=by rw[repCs_size _ _ g8,sizes_all h1]
   skip
   skip
   by_cases hroom:xs.length+ys.length≤cp
   ·
    have hrun:=ZiH (P:=P) (ty:=o.type) ht hi hS hone k3 hroom g4;let ncur:Array yh:=(cur.toList.take (xs.length*i.size)++news++cur.toList.drop (xs.length*i.size+news.length)).toArray;let σ':Sg:={ σ with m:=σ.m.set id (some b),H:=σ.H.set id (.log i.size e (xs++ys)),w:=σ.w.setRow b ncur};have hfit:xs.length*i.size+news.length≤cur.size:=by rw[hnl,g4, ←yat];exact ycb _ hroom
    have hncs:ncur.size=cp*i.size:=by
     simp only[ncur,List.size_toArray,yr,ybq,yas,hus];omega
    have hblk:σ'.w.heap[b]? =some (.cells ncur e (0,0)):=setRow_heap σ.w b cur _ e _ k3;have hoth:∀j,b≠j→σ'.w.heap[j]? =σ.w.heap[j]? :=λj hj=>setRow_other σ.w b j _ (Ne.symm hj);have hmset:σ'.m[id]? =some (some b):=getElem?_set_eq' hmi;have hHset:σ'.H[id]? =some (.log i.size e (xs++ys)):=getElem?_set_eq' hH
    have hpre:∀o,o < xs.length*i.size→ncur[o]? =cur[o]? :=by
     intro o ho;simp only[ncur,List.getElem?_toArray,yak];rw[yah (by rw[hus];exact ho),ycd,if_pos ho];simp
    have hcl:(cur.toList.take (xs.length*i.size)++news).length=(xs++ys).length*i.size:=by
     rw[hlen,yr,hus,hnl,yat]
    have htk:ncur.toList.take ((xs++ys).length*i.size)=cur.toList.take (xs.length*i.size)++news:=by
     rw[←hcl];exact List.take_left
    have hbl:ys.length=0→ncur=cur:=by
     intro h0;have:news=[]:=yaz (by rw[hnl,h0];simp);apply Array.ext';simp[ncur,this]
    obtain⟨to,ok'⟩:=Yz (σ':=σ') (mi:=some b) (mi':=some b) ok hH (by rw[hmi,hmb]) rfl rfl rfl rfl rfl rfl rfl (by simp[σ'])
     (λj hj hne=>hoth j (λhh=>hne (by rw[hh]))) (λb' o v hb' hu hcell=>by
       cases hb';rw[cell_of_row σ.w b o cur e (0,0) k3] at hcell;show(σ.w.setRow b ncur).cell? ⟨b,o,none⟩=some v;rw[cell_of_row _ b o ncur e (0,0) hblk,hpre o hu];exact hcell)
     (λo _ hu=>by
       have hu':o < xs.length*i.size:=hu;show o < (xs++ys).length*i.size;rw[hlen,yat];omega) (.inl rfl) (λ⟨d,st,h⟩=>by cases h) (λ⟨d,st,h⟩=>by cases h)
     (λs' e' xs' h=>⟨xs++ys,by cases h;rfl,by cases h;simp,λhh=>by
       cases h;refine⟨rfl,λj _=> ?_⟩;have h0:ys.length=0:=by rw[hlen] at hh;omega
       by_cases hj:b=j
       ·subst hj;rw[hblk,k3,hbl h0]
       ·exact hoth j hj⟩)
     (λleaf=>.inr ⟨b,ncur,cp,rfl,hblk,hncs,by rw[hlen];exact hroom,h3,hall',by
       rw[htk];exact Z4 (repCs_mono leaf.cells _ _ g8) (repCs_mono leaf.cells _ _ hr)⟩)
    refine ZE (σ':=σ') (Z1 ho hcal hargs htys (by rw[hv];exact hrun)) to ok' ?_;rw[Ze rfl];simp only[repD,Bool.true_or]
    refine⟨hall',some ⟨b,0,none⟩,cp,by rw[hlen],by rw[hlen];exact hroom,h3,ZY _,λh=>(by cases h),λ_=>⟨b,0,cur.toList.take (xs.length*i.size)++news,rfl,
     Z4 (repCs_mono to.leaf.cells _ _ g8) (repCs_mono to.leaf.cells _ _ hr),Zde hblk (λo ho=> ?_) ?_⟩,e,_,hHset,ym _,λ_=>.inr ⟨b,ncur,hmset,rfl,hblk,hncs⟩⟩
    ·refine⟨.inr (ok.own id b k1),λj e' g1 g2=> ?_⟩;have:j=id:=ok'.inj j id _ g1 hmset;subst this;rw[hHset] at g2;cases g2;show o < (xs++ys).length*i.size;rw[hcl] at ho;exact ho
    ·rw[hcl];exact htk
   ·
    have hgr:cp < xs.length+ys.length:=by omega
    have hold:(Builtin.firstCells i.size xs.length (.slice (some ⟨b,0,none⟩) xs.length cp)).run P σ.w.drew=.ok (cur.toList.take (xs.length*i.size)).toArray σ.w.drew:=
     run_firstCells_some σ.w.drew i.size _ ⟨b,0,none⟩ _ cp _ hus (λj v hj=>by
      rw[Addr.add_mk,yax];show σ.w.cell? ⟨b,j,none⟩=some v
      have hj2:j < xs.length*i.size:=by
       have:=(yo.1 hj).1;rw[hus] at this;exact this
      rw[cell_of_row σ.w b j cur e (0,0) k3];rw[ycd,if_pos hj2] at hj;simpa using hj)
    have hrun:=ZiI (P:=P) (ty:=o.type) ht hi hzz hS hold hgr hm hb;have hge:=grownCap_ge σ.w (xs.length+ys.length) cp e;have hcm:=grownCap_le_maxLen σ.w (xs.length+ys.length) cp e hm;let q:Nat:=grownCap σ.w (xs.length+ys.length) cp e;let rest:Array yh:=Builtin.zeroCells z.cells (q - (xs.length+ys.length));let ncur:Array yh:=(cur.toList.take (xs.length*i.size)).toArray++news.toArray++rest;let σ':Sg:={ σ with m:=σ.m.set id (some σ.w.heap.size),H:=σ.H.set id (.log i.size e (xs++ys)),w:=σ.w.drew.alloc (.cells ncur e)}
    have hcl:(cur.toList.take (xs.length*i.size)++news).length=(xs++ys).length*i.size:=by
     rw[hlen,yr,hus,hnl,yat]
    have hncs:ncur.size=q*i.size:=by
     simp only[ncur,rest,Array.size_append,List.size_toArray,size_zeroCells,hzs,hus,hnl, ←yat];congr 1;omega
    have htk:ncur.toList.take ((xs++ys).length*i.size)=cur.toList.take (xs.length*i.size)++news:=by
     rw[←hcl];have:ncur.toList=(cur.toList.take (xs.length*i.size)++news)++rest.toList:=by simp[ncur]
     rw[this];exact List.take_left
    have hblk:σ'.w.heap[σ.w.heap.size]? =some (.cells ncur e (0,0)):=heap_alloc_new σ.w.drew _;have hg:=Yu σ.w (.cells ncur e) none;have hblk':∀b,b < σ.w.heap.size→σ'.w.heap[b]? =σ.w.heap[b]? :=λb hb=>hg.block b hb (by simp);have hmset:σ'.m[id]? =some (some σ.w.heap.size):=getElem?_set_eq' hmi;have hHset:σ'.H[id]? =some (.log i.size e (xs++ys)):=getElem?_set_eq' hH
    obtain⟨to,ok'⟩:=Yz (σ':=σ') (mi:=some b) (mi':=some σ.w.heap.size) ok hH (by rw[hmi,hmb]) rfl rfl rfl rfl rfl rfl rfl hg.size
     (λb hb _=>hblk' b hb) (λb' o v hb' _ hcell=>by
       rw[World.cell?_of_block (w:=σ.w) (hblk' b' (XH hcell))];exact hcell)
     (λo h _=>by
       have:=ok.lt id b k1;cases h;omega) (.inr ⟨_,rfl,ym _,by simp[σ']⟩) (λ⟨d,st,h⟩=>by cases h) (λ⟨d,st,h⟩=>by cases h)
     (λs' e' xs' h=>⟨xs++ys,by cases h;rfl,by cases h;simp,λhh=>by
       cases h;rw[hlen] at hh;omega⟩)
     (λleaf=>.inr ⟨σ.w.heap.size,ncur,q,rfl,hblk,hncs,by rw[hlen];exact hge,hcm,hall',by
       rw[htk];exact Z4 (repCs_mono leaf.cells _ _ g8) (repCs_mono leaf.cells _ _ hr)⟩)
    refine ZE (σ':=σ') (Z1 ho hcal hargs htys (by rw[hv];exact hrun)) to ok' ?_;rw[Ze rfl];simp only[repD,Bool.true_or]
    refine⟨hall',some ⟨σ.w.heap.size,0,none⟩,q,by rw[hlen],by rw[hlen];exact hge,hcm,ZY _,λh=>(by cases h),λ_=>⟨σ.w.heap.size,0,cur.toList.take (xs.length*i.size)++news,rfl,
     Z4 (repCs_mono to.leaf.cells _ _ g8) (repCs_mono to.leaf.cells _ _ hr),Zde hblk (λo ho=> ?_) ?_⟩,e,_,hHset,ym _,λ_=>.inr ⟨_,ncur,hmset,rfl,hblk,hncs⟩⟩
    ·refine⟨.inr (ok.new _ (ym _)),λj e' g1 g2=> ?_⟩;have:j=id:=ok'.inj j id _ g1 hmset;subst this;rw[hHset] at g2;cases g2;show o < (xs++ys).length*i.size;rw[hcl] at ho;exact ho
    ·rw[hcl];exact htk
theorem ZmY{t:yb}{len:Nat}{parts:Array (Nat×yn)}(ho:o.op=.buildSlice t len parts){v:yh}{w':yy}
 (h:(Instr.buildSlice t len (parts.map λq=>(q.1,a.eval q.2))).run P σ.w=.ok v w'):(execOp a.eval o).run P σ.w=.ok (.value v) w':=by
 simp[execOp,ho,h]
theorem ZmZ(hrep:RepT σ ts a){t e:yb}{i:TypeInfo}{len:Nat}{parts:Array (Nat×yn)}{xs:List Pl}(hu:P.underlying t=some (.slice e))(hi:P.info? e=some i)(hz:zOk i=true)
 (hsz:len*i.size≤16777216) (hl:Y8 P ts e (P.cellsOf e) len parts.toList=some xs):
 ∃cells:Array yh,(Instr.buildSlice t len (parts.map λq=>(q.1,a.eval q.2))).run P σ.w=.ok (.slice (some ⟨σ.w.heap.size,0,none⟩) len len) (σ.w.alloc (.cells cells e))∧
  repCs σ.w σ.stab xs cells.toList∧xs.length=len∧allSz i.size xs∧cells.size=len*i.size:=by
 have hce:P.cellsOf e=i.size:=by simp[Program.cellsOf,hi]
 rw[hce] at hl
 obtain⟨cells,h1,h2,h3,h4⟩:=ZiG (P:=P) (t:=t) (parts:=parts.map λq=>(q.1,a.eval q.2)) (Q:=λcells=>repCs σ.w σ.stab xs cells.toList∧xs.length=len∧allSz i.size xs) σ.w hu hi hz hsz (λZ hZ=>by
  obtain⟨cells,k1,k2⟩:=ZFh (P:=P) hrep hl Z hZ;exact⟨cells,by rw[ycm];exact k1,k2⟩)
 exact⟨cells,h1,h2,h3,h4,by rw[←yas,repCs_size _ _ h2,sizes_all h4,h3]⟩
theorem Zsr(ok:Ok σ)(hrep:RepT σ ts a){t e:yb}{i:TypeInfo}{len:Nat}{parts:Array (Nat×yn)}{xs:List Pl}(ho:o.op=.buildSlice t len parts)(hu:P.underlying t=some (.slice e))
 (hi:P.info? e=some i) (hz:zOk i=true) (hne:i.size≠0) (hsz:len*i.size≤16777216) (hl:Y8 P ts e (P.cellsOf e) len parts.toList=some xs):Ym P o a σ (.p (.sl (some true) i.size xs)) σ.H:=by
 obtain⟨cells,hrun,hr,hlen,hall,hcs⟩:=ZmZ (P:=P) hrep hu hi hz hsz hl;obtain⟨to,ok'⟩:=ZmU ok (World.grownBy_alloc σ.w (.cells cells e) none)
 have hle:len≤maxLen:=by
  have:=Nat.le_mul_of_pos_right len (Nat.pos_of_ne_zero hne);simp only[maxLen];omega
 refine ZE (σ':={ σ with w:=σ.w.alloc (.cells cells e)}) (ZmY ho hrun) to ok' ?_;rw[←hlen];exact Zsq (Qh rfl) ok' hall (repCs_mono to.leaf.cells _ _ hr) (b:=σ.w.heap.size) (heap_alloc_new σ.w _) (ok.new _ (ym _)) (ZcD ok) (ycn (ym _)) (ym _) (by rw[hlen];exact hle)
theorem ZFi(ok:Ok σ)(hrep:RepT σ ts a){t e:yb}{i:TypeInfo}{len:Nat}{parts:Array (Nat×yn)}{xs:List Pl}(ho:o.op=.buildSlice t len parts)(hu:P.underlying t=some (.slice e))
 (hi:P.info? e=some i) (hz:zOk i=true) (hne:i.size≠0) (hsz:len*i.size≤16777216) (hl:Y8 P ts e (P.cellsOf e) len parts.toList=some xs):
 Ym P o a σ (.own σ.H.length (some true) i.size xs) (σ.H++[.log i.size e xs]):=by
 obtain⟨cells,hrun,hr,hlen,hall,hcs⟩:=ZmZ (P:=P) hrep hu hi hz hsz hl
 have hle:len≤maxLen:=by
  have:=Nat.le_mul_of_pos_right len (Nat.pos_of_ne_zero hne);simp only[maxLen];omega
 let σ':Sg:={ σ with m:=σ.m++[some σ.w.heap.size],H:=σ.H++[.log i.size e xs],w:=σ.w.alloc (.cells cells e)};have hblk:σ'.w.heap[σ.w.heap.size]? =some (.cells cells e (0,0)):=heap_alloc_new σ.w _
 have hmlast:σ'.m[σ.H.length]? =some (some σ.w.heap.size):=by
  show(σ.m++[some σ.w.heap.size])[σ.H.length]? =_;rw[yam (by rw[ok.len];exact ym _),ok.len];simp
 have htk:cells.toList.take (xs.length*i.size)=cells.toList:=ycn (by rw[hlen, ←hcs];simp)
 obtain⟨to,ok'⟩:=Xz (σ':=σ') ok rfl rfl rfl rfl (World.grownBy_alloc σ.w (.cells cells e) none) (.inr ⟨_,rfl,ym _,by simp[σ']⟩)
  (λleaf=>.inr ⟨σ.w.heap.size,cells,len,rfl,hblk,hcs,by rw[hlen];exact ym _,hle,hall,by rw[htk];exact repCs_mono leaf.cells _ _ hr⟩)
 refine ZE (σ':=σ') (ZmY ho hrun) to ok' ?_;rw[Ze rfl];simp only[repD]
 refine⟨hall,some ⟨σ.w.heap.size,0,none⟩,len,by rw[hlen],by rw[hlen];exact ym _,hle,Qh rfl,λh=>(by cases h),λ_=>⟨σ.w.heap.size,0,cells.toList,rfl,repCs_mono to.leaf.cells _ _ hr,Zde hblk (λo' ho'=>⟨.inr (ok.new _ (ym _)),λid e' h1 h2=> ?_⟩) (ycn (ym _))⟩,
  e,xs,by simp[σ'],ym _,λ_=>.inr ⟨_,cells,hmlast,rfl,hblk,hcs⟩⟩
 have:id=σ.H.length:=ok'.inj id σ.H.length _ h1 hmlast;subst this;have h3:σ'.H[σ.H.length]? =some (.log i.size e xs):=by simp[σ']
 rw[h3] at h2;cases h2;show o' < xs.length*i.size;rw[hlen, ←hcs];simpa using ho'
theorem ZDN(ok:Ok σ){t:yb}{dd:Dv}{v:yh}{st:Bool}(hsol:dd.solid=true)(hr:repDV σ dd v)(hx:(execOp a.eval o).run P σ.w=.ok (.value (.pointer (some ⟨σ.w.heap.size,0,none⟩))) (σ.w.alloc (.cells v.cells t))):
 Ym P o a σ (.ref σ.H.length 0 []) (σ.H++[.var dd st]):=by
 have hcells:=X7 hsol hr;let σ':Sg:={ σ with m:=σ.m++[some σ.w.heap.size],H:=σ.H++[.var dd st],w:=σ.w.alloc (.cells v.cells t)};have hblk:σ'.w.heap[σ.w.heap.size]? =some (.cells v.cells t (0,0)):=heap_alloc_new σ.w _;have hsz:=YZ _ _ hcells
 have hmlast:σ'.m[σ.H.length]? =some (some σ.w.heap.size):=by
  show(σ.m++[some σ.w.heap.size])[σ.H.length]? =_;rw[yam (by rw[ok.len];exact ym _),ok.len];simp
 obtain⟨to,ok'⟩:=Xz (σ':=σ') ok rfl rfl rfl rfl (World.grownBy_alloc σ.w (.cells v.cells t) none) (.inr ⟨_,rfl,ym _,by simp[σ']⟩)
  (λleaf=>⟨σ.w.heap.size,v.cells,t,rfl,hblk,by rw[←hsz,ycn (ym _)];exact ZO leaf dd _ hcells,by rw[←hsz];simp⟩)
 refine ZE (σ':=σ') hx to ok' ?_;rw[Ze rfl];simp only[repD];exact⟨_,hmlast,⟨dd,st,by simp[σ']⟩,rfl⟩
theorem ZLm(ok:Ok σ){t:yb}{dd:Dv}{v:yh}{st:Bool}{id:Nat}(hid:σ.H[id]? =some .gone)(hsol:dd.solid=true)(hr:repDV σ dd v)(hx:(execOp a.eval o).run P σ.w=.ok (.value (.pointer (some ⟨σ.w.heap.size,0,none⟩))) (σ.w.alloc (.cells v.cells t))):
 Ym P o a σ (.ref id 0 []) (σ.H.set id (.var dd st)):=by
 have hcells:=X7 hsol hr;have hlt:id < σ.m.length:=by rw[ok.len];exact(yo.1 hid).1
 have hm:σ.m[id]? =some σ.m[id]:=yac hlt;let σ':Sg:={ σ with m:=σ.m.set id (some σ.w.heap.size),H:=σ.H.set id (.var dd st),w:=σ.w.alloc (.cells v.cells t)};have hblk:σ'.w.heap[σ.w.heap.size]? =some (.cells v.cells t (0,0)):=heap_alloc_new σ.w _;have hg:=World.grownBy_alloc σ.w (.cells v.cells t) none;have hsz:=YZ _ _ hcells;have hself:σ'.m[id]? =some (some σ.w.heap.size):=getElem?_set_eq' hm;have hHself:σ'.H[id]? =some (.var dd st):=getElem?_set_eq' hid
 obtain⟨to,ok'⟩:=Yz (σ':=σ') (mi:=σ.m[id]) (mi':=some σ.w.heap.size) ok hid hm rfl rfl rfl rfl rfl rfl rfl hg.size
  (λj hj _=>hg.block j hj (by simp)) (λb o v hb _ hc=>by
    have hj:=ok.lt id b (by rw[hm,hb]);rw[World.cell?_of_block (w:=σ.w) (hg.block b hj (by simp))];exact hc) (λo he hu=>by
    have hj:=ok.lt id _ (by rw[hm, ←he]);omega) (.inr ⟨_,rfl,ym _,by simp[σ']⟩) (λ⟨d,st,h⟩=>by cases h) (λ⟨d,st,h⟩=>by cases h) (λs e xs h=>by cases h)
  (λleaf=>⟨σ.w.heap.size,v.cells,t,rfl,hblk,by rw[←hsz,ycn (ym _)];exact ZO leaf dd _ hcells,by rw[←hsz];simp⟩)
  (λv s st e d h=>by cases h)
 refine ZE (σ':=σ') hx to ok' ?_;rw[Ze rfl];simp only[repD];exact⟨_,hself,⟨dd,st,hHself⟩,rfl⟩
theorem ZB5(ok:Ok σ){t:yb}{i:TypeInfo}{id:Nat}(hid:σ.H[id]? =some .gone)(ho:o.op=.alloc t)(hi:P.info? t=some i)(hz:i.zero.isSome=true)(hk:okT P t (Yr P t)=true)(hsol:(Yr P t).solid=true):
 Ym P o a σ (.ref id 0 []) (σ.H.set id (.var (Yr P t) true)):=by
 cases hzz:i.zero with
 |none=>simp[hzz] at hz
 |some z=>
  have hr:repDV σ (Yr P t) z:=by
   unfold Yr;rw[hi];simp only[hzz];exact Wh
  refine ZLm (v:=z) (t:=t) ok hid hsol hr ?_;simp[execOp,ho,Instr.alloc,zeroValue,typeInfo,hi,hzz,newVar,newRow]
theorem ZJn(ok:Ok σ){t:yb}{i:TypeInfo}(ho:o.op=.alloc t)(hi:P.info? t=some i)(hz:i.zero.isSome=true)(hk:okT P t (Yr P t)=true)(hsol:(Yr P t).solid=true):
 Ym P o a σ (.ref σ.H.length 0 []) (σ.H++[.var (Yr P t) true]):=by
 cases hzz:i.zero with
 |none=>simp[hzz] at hz
 |some z=>
  have hr:repDV σ (Yr P t) z:=by
   unfold Yr;rw[hi];simp only[hzz];exact Wh
  refine ZDN (v:=z) (t:=t) ok hsol hr ?_;simp[execOp,ho,Instr.alloc,zeroValue,typeInfo,hi,hzz,newVar,newRow]
theorem ZM1(ok:Ok σ){t:yb}{x:yn}{dd:Dv}(ho:o.op=.box t x)(hsol:dd.solid=true)(hr:repDV σ dd (a.eval x)):Ym P o a σ (.ref σ.H.length 0 []) (σ.H++[.var dd true]):=by
 refine ZDN (v:=a.eval x) (t:=t) ok hsol hr ?_;simp[execOp,ho,Instr.box,newVar,newRow]
theorem Ql{σ:Sg}:∀(path:List Nat)(dd:Dv)(hs hs':List Hint)(C:List Prop)(off:Nat)(sub:Dv)(us:List yh),Z3 dd path hs=some (C,off,sub,hs')→AllP C→repD σ dd us→
 ∃x y z,us=x++(y++z)∧x.length=off∧repD σ sub y
 |[],dd,hs,hs',C,off,sub,us,h,hc,hr=>by
  simp only[Z3,yj,yl] at h;obtain⟨rfl,rfl,rfl,rfl⟩:=h
  exact⟨[],us,[],by simp,rfl,hr⟩
 |i::path,dd,hs,hs',C,off,sub,us,h,hc,hr=>by
  cases dd with
  |p q=>
   cases q with
   |agg xs=>
    simp only[Z3] at h;split at h
    ·rename_i x hx;simp only[yp,yl] at h;obtain⟨⟨C1,off1,sub1,hs1⟩,h1,rfl,rfl,rfl,rfl⟩:=h;simp only[repD,repC] at hr;obtain⟨p1,p2,p3,rfl,h2,h3,_⟩:=QB hr hx;obtain⟨q1,q2,q3,rfl,h4,h5⟩:=Ql path (.p x) _ _ _ _ _ p2 h1 hc (by simpa[repD] using h3);exact⟨p1++q1,q2,q3++p3,by simp,by rw[yr,h2,h4],h5⟩
    ·cases h
   |arr n s xs=>
    simp only[Z3] at h;split at h
    ·rename_i y hs1;simp only[yp,yl] at h;obtain⟨⟨C1,off1,sub1,hs1⟩,h1,rfl,rfl,rfl,rfl⟩:=h;obtain⟨hx,hc⟩:=hc;simp only[repD,repC] at hr;obtain⟨hl,hall,hr⟩:=hr;obtain⟨p1,p2,p3,rfl,h2,h3,_⟩:=QB hr hx;obtain⟨q1,q2,q3,rfl,h4,h5⟩:=Ql path (.p y) _ _ _ _ _ p2 h1 hc (by simpa[repD] using h3);have hi:i < xs.length:=(yo.1 hx).1;exact⟨p1++q1,q2,q3++p3,by simp,by rw[yr,h2,h4,sizes_all (Wg hall i),yae,yav (Nat.le_of_lt hi)],h5⟩
    ·cases h
   |_=>simp[Z3] at h
  |agg xs=>
   simp only[Z3] at h;split at h
   ·rename_i x hx;simp only[yp,yl] at h;obtain⟨⟨C1,off1,sub1,hs1⟩,h1,rfl,rfl,rfl,rfl⟩:=h;simp only[repD] at hr;obtain⟨p1,p2,p3,rfl,h2,h3,_⟩:=Zdn hr hx;obtain⟨q1,q2,q3,rfl,h4,h5⟩:=Ql path x _ _ _ _ _ p2 h1 hc h3;exact⟨p1++q1,q2,q3++p3,by simp,by rw[yr,h2,h4],h5⟩
   ·cases h
  |arr n s xs=>
   simp only[Z3] at h;split at h
   ·rename_i x hx;simp only[yp,yl] at h;obtain⟨⟨C1,off1,sub1,hs1⟩,h1,rfl,rfl,rfl,rfl⟩:=h;simp only[repD] at hr;obtain⟨hl,hall,hr⟩:=hr;obtain⟨p1,p2,p3,rfl,h2,h3,_⟩:=Zdn hr hx;obtain⟨q1,q2,q3,rfl,h4,h5⟩:=Ql path x _ _ _ _ _ p2 h1 hc h3;have hi:i < xs.length:=(yo.1 hx).1;exact⟨p1++q1,q2,q3++p3,by simp,by rw[yr,h2,h4,dsizes_all (λy hy=>hall y (ybn hy)),yae,yav (Nat.le_of_lt hi)],h5⟩
   ·cases h
  |_=>simp[Z3] at h
theorem Zm0(ok:Ok σ){id off:Nat}{path:List Nat}{dd sub:Dv}{st:Bool}{b:Nat}{C:List Prop}{off':Nat}(hm:σ.m[id]? =some (some b))(hH:σ.H[id]? =some (.var dd st))(hg:Z3 dd path hs=some (C,off',sub,hs'))(hc:AllP C)(he:off'=off):
 ∃cs t x y z,σ.w.heap[b]? =some (.cells cs t (0,0))∧dd.size≤cs.size∧cs.toList.take dd.size=x++(y++z)∧x.length=off∧repD σ sub y∧repD σ dd (cs.toList.take dd.size)∧
  (∀(j:Nat)(u:yh),y[j]? =some u→σ.w.cell? ⟨b,off+j,none⟩=some u):=by
 obtain⟨b',cs,t,h1,h2,h3,h4⟩:=ok.ent id _ _ hH hm;cases h1;obtain⟨x,y,z,h5,h6,h7⟩:=Ql path dd hs hs' C off' sub _ hg hc h3;subst he;refine⟨cs,t,x,y,z,h2,h4,h5,h6,h7,h3,λj u hu=> ?_⟩;rw[cell_of_row σ.w b _ cs t (0,0) h2, ←ybr, ←h6];have hj:j < y.length:=(yo.1 hu).1
 have hlt:x.length+j < dd.size:=by
  have:=congrArg List.length h5;simp only[yae,yas,yr] at this;omega
 have h8:(cs.toList.take dd.size)[x.length+j]? =some u:=by
  rw[h5,yam (by omega),yah (by omega)];simpa using hu
 rw[ycd,if_pos hlt] at h8;exact h8
theorem Zwa{d:Dv}{s N:Nat}(h:rowN d s=some N):d.size=N*s:=by
 unfold rowN at h;split at h
 ·split at h
  ·rename_i e;cases h;rw[e];rfl
  ·cases h
 ·split at h
  ·rename_i e;cases h;rw[e];rfl
  ·cases h
 ·cases h
theorem ZFj(ok:Ok σ){id off v s N:Nat}{path:List Nat}{dd sub:Dv}{st:Bool}{e:yb}{b:Nat}{C:List Prop}{off':Nat}(hm:σ.m[id]? =some (some b))(hH:σ.H[id]? =some (.row v s st e dd))(hN:rowN dd s=some N)
 (hg:Z3 dd path hs=some (C,off',sub,hs')) (hc:AllP C) (he:off'=off):
 ∃cs cap x y z,σ.w.heap[b]? =some (.cells cs e (0,0))∧cs.size=cap*s∧N≤cap∧cap≤maxLen∧dd.size≤cs.size∧cs.toList.take dd.size=x++(y++z)∧x.length=off∧repD σ sub y∧repD σ dd (cs.toList.take dd.size)∧
  (∀(j:Nat)(u:yh),y[j]? =some u→σ.w.cell? ⟨b,off+j,none⟩=some u):=by
 obtain⟨N',hN',h⟩:=ok.ent id _ _ hH hm;rw[hN] at hN';cases hN';rcases h with⟨h,_⟩|⟨b',cs,cap,h1,h2,h4,h5,h6,h3⟩
 ·cases h
 cases h1;have hsz:=Zwa hN;rw[←hsz] at h3;have hle:dd.size≤cs.size:=by rw[hsz,h4];exact ycb _ h5
 obtain⟨x,y,z,k5,k6,k7⟩:=Ql path dd hs hs' C off' sub _ hg hc h3;subst he;refine⟨cs,cap,x,y,z,h2,h4,h5,h6,hle,k5,k6,k7,h3,λj u hu=> ?_⟩;rw[cell_of_row σ.w b _ cs e (0,0) h2, ←ybr, ←k6];have hj:j < y.length:=(yo.1 hu).1
 have hlt:x.length+j < dd.size:=by
  have:=congrArg List.length k5;simp only[yae,yas,yr] at this;omega
 have h8:(cs.toList.take dd.size)[x.length+j]? =some u:=by
  rw[k5,yam (by omega),yah (by omega)];simpa using hu
 rw[ycd,if_pos hlt] at h8;exact h8
theorem ZJo(ok:Ok σ){id v s b:Nat}{st:Bool}{e:yb}{dd:Dv}(hm:σ.m[id]? =some (some b))(hH:σ.H[id]? =some (.row v s st e dd)):∃N,rowN dd s=some N:=by
 obtain⟨N',hN',_⟩:=ok.ent id _ _ hH hm;exact⟨N',hN'⟩
theorem ZzO{id v off v' s:Nat}{path:List Nat}{st:Bool}{e:yb}{dd:Dv}{u:yh}(hx:repDV σ (.rref id v off path) u)(hH:σ.H[id]? =some (.row v' s st e dd))(hv:v'=v):∃b,u=.pointer (some ⟨b,off,none⟩)∧σ.m[id]? =some (some b):=by
 obtain⟨b,o',h1,v2,s2,st2,e2,d2,h2,h3,h4⟩:=ZmV hx;rw[hH] at h2;cases h2;obtain⟨h5,h6⟩:=h4 hv;exact⟨b,by rw[h1,h6],h5⟩
theorem ZLn(ok:Ok σ)(hrep:RepT σ ts a){t:yb}{x:yn}(ho:o.op=.load t x)(h:evR P o ts σ.H hs=some (C,d,hs'))(hc:AllP C):Ym P o a σ d σ.H:=by
 simp only[evR,ho] at h;have hx:=Zi (P:=P) hrep 0 x;split at h
 ·rename_i id off path hd;rw[hd] at hx;split at h
  ·rename_i dd st hH;split at h
   ·rename_i C1 off' sub hs1 hg;split at h
    ·rename_i hk;simp only[yj,yl] at h;obtain⟨rfl,rfl,rfl⟩:=h;unfold okT at hk;simp only[yi,beq_iff_eq] at hk;obtain⟨⟨⟨k1,k2⟩,k3⟩,k4⟩:=hk;obtain⟨hc1,hc2⟩:=Zj.1 hc;obtain⟨b,hm,hv,hx⟩:=ZeK hx;obtain⟨cs,t',p1,p2,p3,_,_,_,_,h5,_,h6⟩:=Zm0 ok hm hH hg hc1 hc2.1;obtain⟨v,h7,h8⟩:=ZeI (P:=P) h5 h6 k1 k4 k3 k2;exact Zh ok (by simp[execOp,ho,hx,Instr.loadAt,Instr.sureAddr,h7]) h8
    ·cases h
   ·cases h
  ·cases h
 ·rename_i id v off path hd;rw[hd] at hx;split at h
  ·rename_i v' s' st e dd hH;split at h
   ·rename_i C1 off' sub hs1 hg;split at h
    ·rename_i hk;simp only[yj,yl] at h;obtain⟨rfl,rfl,rfl⟩:=h;unfold okT at hk;simp only[yi,beq_iff_eq] at hk;obtain⟨⟨⟨⟨k1,k2⟩,k3⟩,k4⟩,hv⟩:=hk;obtain⟨hc1,hc2⟩:=Zj.1 hc;obtain⟨b,hx,hm⟩:=ZzO hx hH hv;obtain⟨N,hN⟩:=ZJo ok hm hH;obtain⟨cs,cap,p1,p2,p3,_,_,_,_,_,_,_,h5,_,h6⟩:=ZFj ok hm hH hN hg hc1 hc2.1;obtain⟨v,h7,h8⟩:=ZeI (P:=P) h5 h6 k1 k4 k3 k2;exact Zh ok (by simp[execOp,ho,hx,Instr.loadAt,Instr.sureAddr,h7]) h8
    ·cases h
   ·cases h
  ·cases h
 ·cases h
end
end Go.Ev
end
