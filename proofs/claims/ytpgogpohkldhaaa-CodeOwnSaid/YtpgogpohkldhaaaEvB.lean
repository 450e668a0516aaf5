/- The evaluator, part B: what a contract of a function and of a piece of code says; the evaluator itself. -/
import Derived.Test.YtpgogpohkldhaaaEvA
set_option linter.unusedVariables false
set_option linter.unusedSimpArgs false
namespace Go.Ev

/-! ### States, steps, contracts -/

def entOk (σ : Sg) (a : Option Nat) : Ent → Prop
  | .var d _ => ∃ b cs t, a = some b ∧ σ.w.heap[b]? = some (.cells cs t (0, 0)) ∧ repD σ d (cs.toList.take d.size) ∧ d.size ≤ cs.size
  | .log s e xs => (a = none ∧ xs = []) ∨
      ∃ b cur cap, a = some b ∧ σ.w.heap[b]? = some (.cells cur e (0, 0)) ∧ cur.size = cap * s ∧ xs.length ≤ cap ∧ cap ≤ maxLen ∧ allSz s xs ∧
        repCs σ.w σ.stab xs (cur.toList.take (xs.length * s))
  | .map _ _ => False
  | .gone => True

structure Ok (σ : Sg) : Prop where
  len : σ.m.length = σ.H.length
  inj : ∀ (i j b : Nat), σ.m[i]? = some (some b) → σ.m[j]? = some (some b) → i = j
  lt : ∀ (i b : Nat), σ.m[i]? = some (some b) → b < σ.w.heap.size
  ent : ∀ (i : Nat) (e : Ent) (a : Option Nat), σ.H[i]? = some e → σ.m[i]? = some a → entOk σ a e
  new : ∀ (b : Nat), σ.w.heap.size ≤ b → σ.B b
  own : ∀ (i b : Nat), σ.m[i]? = some (some b) → σ.B b

/-- from one state to a later one -/
structure To (σ σ' : Sg) : Prop where
  leaf : Leaf σ σ'
  F : σ'.F = σ.F
  B : σ'.B = σ.B
  os : σ'.w.os = σ.w.os
  tape : σ'.w.tape = σ.w.tape
  output : σ'.w.output = σ.w.output
  size : σ.w.heap.size ≤ σ'.w.heap.size
  block : ∀ (b : Nat), b < σ.w.heap.size → (∀ (id : Nat), σ.m[id]? ≠ some (some b)) → σ'.w.heap[b]? = σ.w.heap[b]?
  same : ∀ (id b : Nat), σ'.m[id]? = some (some b) → σ.m[id]? = some (some b) ∨ σ.w.heap.size ≤ b
  len : σ.m.length ≤ σ'.m.length

theorem To.refl (σ : Sg) : To σ σ := ⟨Leaf.refl σ, rfl, rfl, rfl, rfl, rfl, Nat.le_refl _, fun _ _ _ => rfl, fun _ _ h => .inl h, Nat.le_refl _⟩
theorem To.trans {a b c : Sg} (h : To a b) (k : To b c) : To a c where
  leaf := h.leaf.trans k.leaf
  F := k.F.trans h.F
  B := k.B.trans h.B
  os := k.os.trans h.os
  tape := k.tape.trans h.tape
  output := k.output.trans h.output
  size := Nat.le_trans h.size k.size
  block x hx hn := (k.block x (Nat.lt_of_lt_of_le hx h.size) (fun id he => by
    rcases h.same id x he with h1 | h1
    · exact hn id h1
    · omega)).trans (h.block x hx hn)
  same id x hx := by
    rcases k.same id x hx with h1 | h1
    · exact h.same id x h1
    · exact .inr (Nat.le_trans h.size h1)
  len := Nat.le_trans h.len k.len

/-- the contract of a function: called at values that stand for 'args', where the entries that it is given are H, it returns one that stands for r, and the entries are H' -/
def Con (P : Program) (f : FuncId) (args : List Dv) (H : List Ent) (r : Dv) (H' : List Ent) : Prop :=
  ∀ (σ : Sg) (vs : List Value), Ok σ → σ.H = H → repVs σ args vs →
    Calls P f vs.toArray σ.w fun e w' => ∃ v σ', e = .returned v ∧ σ'.w = w' ∧ σ'.H = H' ∧ To σ σ' ∧ Ok σ' ∧ repDV σ' r v

structure RepT (σ : Sg) (ts : List Dv) (a : Act) : Prop where
  size : a.tmps.size = ts.length
  at_ : ∀ (i : Nat) (d : Dv), ts[i]? = some d → repDV σ d (a.tmps.getD i undef)
  defers : a.defers = []

theorem RepT.to {σ σ' : Sg} {ts : List Dv} {a : Act} (h : RepT σ ts a) (k : Leaf σ σ') : RepT σ' ts a :=
  ⟨h.size, fun i d hd => repDV_leaf k (h.at_ i d hd), h.defers⟩

inductive Ex where
  | normal
  | exit (id : Nat)
  | ret
  deriving DecidableEq, Inhabited

def Ex.to : Ex → Exit
  | .normal => .normal
  | .exit id => .exit id
  | .ret => .ret

/-- a piece of code, run where the slots stand for ts and the entries are H, ends so, with ts' and H' -/
def Runs (P : Program) (c : Code) (ts : List Dv) (H : List Ent) (ex : Ex) (ts' : List Dv) (H' : List Ent) : Prop :=
  ∀ (σ : Sg) (a : Act), Ok σ → σ.H = H → RepT σ ts a →
    c.wp P (fun e a' w' => e = ex.to ∧ ∃ σ', σ'.w = w' ∧ σ'.H = H' ∧ To σ σ' ∧ Ok σ' ∧ RepT σ' ts' a') a σ.w

/-! ### The evaluator -/

inductive Hint where
  | b (t : Bool)
  | el (x : Pl)
  | bare
  | raw
  | call (r : Dv) (H' : List Ent) (ids : List Nat)
  | sub (t : Nat) (d : Dv)
  | own
  | snap
  | arr
  | frz
  | fresh (dst : Nat)
  | loop (mask : List Nat) (ex : Ex) (ts' : List Dv) (H' : List Ent)
  deriving Inhabited

def inKind (k : IntKind) (x : Int) : Prop := k.min ≤ x ∧ x ≤ k.max

/-- the cells per element of a slice type -/
def elemSz (P : Program) (t : TypeId) : Nat :=
  match P.underlying t with
  | some (.slice e) => P.cellsOf e
  | _ => 0

def isAggT (P : Program) (t : TypeId) : Bool :=
  match P.underlying t with
  | some (.struct _) => true
  | some (.array _ _) => true
  | _ => false

/-- a plain datum out of cells, by a type -/
def plCell (P : Program) (t : TypeId) : Value → Option Pl
  | .int k n => some (.int k n)
  | .bool b => some (.bool b)
  | .string s => some (.str s)
  | .pointer none => some .ptr0
  | .nilFunc => some .fn0
  | .nilIface => some .if0
  | .map none => some .map0
  | .slice none 0 0 => some (.sl false (elemSz P t) [])
  | _ => none

mutual
def plOf (P : Program) : Nat → TypeId → List Value → Option (Pl × List Value)
  | 0, _, _ => none
  | fuel + 1, t, vs =>
    match P.underlying t with
    | some (.struct fs) => (plFields P fuel (fs.toList.map (·.type)) vs).map fun r => (.agg r.1, r.2)
    | some (.array n e) => (plArr P fuel e n vs).map fun r => (.arr n (P.cellsOf e) r.1, r.2)
    | some _ => match vs with
      | v :: r => (plCell P t v).map fun x => (x, r)
      | [] => none
    | none => none
def plFields (P : Program) : Nat → List TypeId → List Value → Option (List Pl × List Value)
  | 0, _, _ => none
  | _ + 1, [], vs => some ([], vs)
  | fuel + 1, t :: ts, vs =>
    match plOf P fuel t vs with
    | some (x, r) => (plFields P fuel ts r).map fun q => (x :: q.1, q.2)
    | none => none
def plArr (P : Program) : Nat → TypeId → Nat → List Value → Option (List Pl × List Value)
  | 0, _, _, _ => none
  | _ + 1, _, 0, vs => some ([], vs)
  | fuel + 1, e, n + 1, vs =>
    match plOf P fuel e vs with
    | some (x, r) => if x.size = P.cellsOf e then (plArr P fuel e n r).map fun q => (x :: q.1, q.2) else none
    | none => none
end

def constD (P : Program) (t : TypeId) : Value → Dv
  | .agg cs => match plOf P 1000 t cs.toList with
    | some (x, []) => if x.isAgg then .p x else .junk
    | _ => .junk
  | .func (.func f) fst cap => if fst.size = 0 ∧ cap.size = 0 then .fn f [] else .junk
  | v => match plCell P t v with
    | some x => .p x
    | none => .junk

def argD (P : Program) (ts : List Dv) (t : TypeId) : Operand → Dv
  | .tmp i => ts.getD i .junk
  | .const v => constD P t v
  | .global _ => .junk
  | .func f => .fn f []

mutual
/-- what may lie in memory -/
def Dv.solid : Dv → Bool
  | .tup _ => false
  | .junk => false
  | .agg xs => Dv.solids xs
  | .arr _ _ xs => Dv.solids xs
  | _ => true
def Dv.solids : List Dv → Bool
  | [] => true
  | x :: r => x.solid && Dv.solids r
end

mutual
/-- a value whose entries have other numbers -/
def Dv.rn (f : Nat → Option Nat) : Dv → Option Dv
  | .p x => some (.p x)
  | .elem x => some (.elem x)
  | .ref id off path => (f id).map fun i => .ref i off path
  | .own id nn s xs => (f id).map fun i => .own i nn s xs
  | .view id off path s lo n => (f id).map fun i => .view i off path s lo n
  | .agg xs => (Dv.rns f xs).map .agg
  | .arr n s xs => (Dv.rns f xs).map (.arr n s)
  | .fn g cap => (Dv.rns f cap).map (.fn g)
  | .iface t x => (Dv.rn f x).map (.iface t)
  | .tup xs => (Dv.rns f xs).map .tup
  | .mp id => (f id).map .mp
  | .junk => some .junk
def Dv.rns (f : Nat → Option Nat) : List Dv → Option (List Dv)
  | [] => some []
  | x :: r => match Dv.rn f x, Dv.rns f r with
    | some y, some ys => some (y :: ys)
    | _, _ => none
end

def Ent.rn (f : Nat → Option Nat) : Ent → Option Ent
  | .var d st => (d.rn f).map fun d' => .var d' st
  | .log s e xs => some (.log s e xs)
  | .map t kvs => some (.map t kvs)
  | .gone => some .gone

def Ent.rns (f : Nat → Option Nat) : List Ent → Option (List Ent)
  | [] => some []
  | x :: r => match Ent.rn f x, Ent.rns f r with
    | some y, some ys => some (y :: ys)
    | _, _ => none

def Dv.plain : Dv → Option Pl
  | .p x => some x
  | .own _ nn s xs => some (.sl nn s xs)
  | _ => none

def plains : List Dv → Option (List Pl)
  | [] => some []
  | d :: r => match d.plain, plains r with
    | some x, some xs => some (x :: xs)
    | _, _ => none

def mkAgg (ds : List Dv) : Dv :=
  match plains ds with
  | some xs => .p (.agg xs)
  | none => .agg ds

end Go.Ev
