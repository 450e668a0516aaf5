/- The evaluator, part A: plain data, abstract values, what they stand for in a world. -/
import Derived.WalkKit
set_option linter.unusedVariables false
set_option linter.unusedSimpArgs false
namespace Go.Ev

/-- plain data: nothing of it can change -/
inductive Pl where
  | int (k : IntKind) (n : Int)
  | bool (b : Bool)
  | str (s : ByteArray)
  | ptr0 | fn0 | if0 | map0
  | fnv (f : FuncId)
  | agg (xs : List Pl)
  | arr (n s : Nat) (xs : List Pl)
  | sl (nn : Bool) (s : Nat) (xs : List Pl)
  | iface (t : TypeId) (x : Pl)
  deriving Inhabited

mutual
def Pl.size : Pl → Nat
  | .agg xs => Pl.sizes xs
  | .arr n s _ => n * s
  | _ => 1
def Pl.sizes : List Pl → Nat
  | [] => 0
  | x :: r => x.size + Pl.sizes r
end

def Pl.isAgg : Pl → Bool
  | .agg _ => true
  | .arr _ _ _ => true
  | _ => false

def allSz (s : Nat) (xs : List Pl) : Prop := ∀ x, x ∈ xs → x.size = s

def Cells (w : World) (S : Nat → Nat → Prop) (b o : Nat) (us : List Value) : Prop :=
  ∀ j u, us[j]? = some u → w.cell? ⟨b, o + j, none⟩ = some u ∧ S b (o + j)

mutual
def repC (w : World) (S : Nat → Nat → Prop) : Pl → List Value → Prop
  | .int k n, vs => vs = [.int k n]
  | .bool b, vs => vs = [.bool b]
  | .str s, vs => vs = [.string s]
  | .ptr0, vs => vs = [.pointer none]
  | .fn0, vs => vs = [.nilFunc]
  | .if0, vs => vs = [.nilIface]
  | .map0, vs => vs = [.map none]
  | .fnv f, vs => vs = [.func (.func f) #[] #[]]
  | .agg xs, vs => repCs w S xs vs
  | .arr n s xs, vs => xs.length = n ∧ allSz s xs ∧ repCs w S xs vs
  | .sl nn s xs, vs => allSz s xs ∧ ∃ A c, vs = [.slice A xs.length c] ∧ xs.length ≤ c ∧ c ≤ maxLen ∧ A.isSome = nn ∧ (nn = false → c = 0) ∧
      (xs ≠ [] → ∃ b o us, A = some ⟨b, o, none⟩ ∧ repCs w S xs us ∧ Cells w S b o us)
  | .iface t x, vs => ∃ v, vs = [.iface t v] ∧ (x.isAgg = true → ∃ cs : Array Value, v = .agg cs ∧ repC w S x cs.toList) ∧ (x.isAgg = false → repC w S x [v])
def repCs (w : World) (S : Nat → Nat → Prop) : List Pl → List Value → Prop
  | [], vs => vs = []
  | x :: xs, vs => ∃ us us', vs = us ++ us' ∧ repC w S x us ∧ repCs w S xs us'
end

/-- the value of a plain datum -/
def repV (w : World) (S : Nat → Nat → Prop) (x : Pl) (v : Value) : Prop :=
  (x.isAgg = true → ∃ cs : Array Value, v = .agg cs ∧ repC w S x cs.toList) ∧ (x.isAgg = false → repC w S x [v])

inductive Dv where
  | p (x : Pl)
  | elem (x : Pl)
  | ref (id off : Nat) (path : List Nat)
  | own (id : Nat) (nn : Bool) (s : Nat) (xs : List Pl)
  | view (id off : Nat) (path : List Nat) (s lo n : Nat)
  | agg (xs : List Dv)
  | arr (n s : Nat) (xs : List Dv)
  | fn (f : FuncId) (cap : List Dv)
  | iface (t : TypeId) (x : Dv)
  | tup (xs : List Dv)
  | mp (id : Nat)
  | junk
  deriving Inhabited

mutual
def Dv.size : Dv → Nat
  | .p x => x.size
  | .agg xs => Dv.sizes xs
  | .arr n s _ => n * s
  | _ => 1
def Dv.sizes : List Dv → Nat
  | [] => 0
  | x :: r => x.size + Dv.sizes r
end

def Dv.isAgg : Dv → Bool
  | .p x => x.isAgg
  | .agg _ => true
  | .arr _ _ _ => true
  | _ => false

inductive Ent where
  | var (d : Dv) (st : Bool)
  | log (s : Nat) (e : TypeId) (xs : List Pl)
  | map (t : TypeId) (kvs : List (Pl × Pl))
  | gone
  deriving Inhabited

/-- what stands behind an evaluation: the cells that the caller says will stay; the blocks that are the call's own; where each entry lies; the entries; the world -/
structure Sg where
  F : Nat → Nat → Prop
  B : Nat → Prop
  m : List (Option Nat)
  H : List Ent
  w : World

def Ent.unlocked : Ent → Nat → Prop
  | .var _ st, _ => st = false
  | .log s _ xs, o => o < xs.length * s
  | .map _ _, _ => False
  | .gone, _ => True

def Sg.stab (σ : Sg) (b o : Nat) : Prop :=
  (σ.F b o ∨ σ.B b) ∧ ∀ (id : Nat) (e : Ent), σ.m[id]? = some (some b) → σ.H[id]? = some e → e.unlocked o

def Ent.isVar : Ent → Bool
  | .var _ _ => true
  | _ => false

def ownFront (σ : Sg) (id s : Nat) (len : Nat) (A : Option Addr) (c : Nat) : Prop :=
  ∃ e ys, σ.H[id]? = some (.log s e ys) ∧ len ≤ ys.length ∧ (ys.length = len →
    (σ.m[id]? = some none ∧ A = none ∧ c = 0) ∨
    ∃ b cur, σ.m[id]? = some (some b) ∧ A = some ⟨b, 0, none⟩ ∧ σ.w.heap[b]? = some (.cells cur e (0, 0)) ∧ cur.size = c * s)

mutual
def repD (σ : Sg) : Dv → List Value → Prop
  | .p x, vs => repC σ.w σ.stab x vs
  | .elem x, vs => ∃ b o us, vs = [.pointer (some ⟨b, o, none⟩)] ∧ repC σ.w σ.stab x us ∧ Cells σ.w σ.stab b o us
  | .ref id off _, vs => ∃ b, σ.m[id]? = some (some b) ∧ (∃ d st, σ.H[id]? = some (.var d st)) ∧ vs = [.pointer (some ⟨b, off, none⟩)]
  | .own id nn s xs, vs => allSz s xs ∧ ∃ A c, vs = [.slice A xs.length c] ∧ xs.length ≤ c ∧ c ≤ maxLen ∧ A.isSome = nn ∧ (nn = false → c = 0) ∧
      (xs ≠ [] → ∃ b o us, A = some ⟨b, o, none⟩ ∧ repCs σ.w σ.stab xs us ∧ Cells σ.w σ.stab b o us) ∧ ownFront σ id s xs.length A c
  | .view id off _ s lo n, vs => ∃ b c a, σ.m[id]? = some (some b) ∧ (∃ d st, σ.H[id]? = some (.var d st)) ∧ vs = [.slice (some a) n c] ∧ n ≤ c ∧ c ≤ maxLen ∧
      (0 < n → a = ⟨b, off + lo * s, none⟩)
  | .agg xs, vs => repDs σ xs vs
  | .arr n s xs, vs => xs.length = n ∧ (∀ x, x ∈ xs → x.size = s) ∧ repDs σ xs vs
  | .fn f cap, vs => ∃ cs, vs = [.func (.func f) #[] cs] ∧ repVs σ cap cs.toList
  | .iface t x, vs => ∃ v, vs = [.iface t v] ∧ (x.isAgg = true → ∃ cs : Array Value, v = .agg cs ∧ repD σ x cs.toList) ∧ (x.isAgg = false → repD σ x [v])
  | .tup xs, vs => ∃ cs, vs = [.tuple cs] ∧ repVs σ xs cs.toList
  | .mp id, vs => ∃ b, σ.m[id]? = some (some b) ∧ (∃ t kvs, σ.H[id]? = some (.map t kvs)) ∧ vs = [.map (some b)]
  | .junk, vs => vs.length = 1
def repDs (σ : Sg) : List Dv → List Value → Prop
  | [], vs => vs = []
  | x :: xs, vs => ∃ us us', vs = us ++ us' ∧ repD σ x us ∧ repDs σ xs us'
def repVs (σ : Sg) : List Dv → List Value → Prop
  | [], vs => vs = []
  | x :: xs, vs => ∃ v vs', vs = v :: vs' ∧ ((x.isAgg = true → ∃ cs : Array Value, v = .agg cs ∧ repD σ x cs.toList) ∧ (x.isAgg = false → repD σ x [v])) ∧ repVs σ xs vs'
end

def repDV (σ : Sg) (d : Dv) (v : Value) : Prop :=
  (d.isAgg = true → ∃ cs : Array Value, v = .agg cs ∧ repD σ d cs.toList) ∧ (d.isAgg = false → repD σ d [v])

/-! ### What is read stays, where its cells stay -/

theorem Cells.mono {w w' : World} {S S' : Nat → Nat → Prop} (h : ∀ (b o : Nat) (v : Value), w.cell? ⟨b, o, none⟩ = some v → S b o → w'.cell? ⟨b, o, none⟩ = some v ∧ S' b o)
    {b o : Nat} {us : List Value} (hc : Cells w S b o us) : Cells w' S' b o us :=
  fun j u hu => let ⟨h1, h2⟩ := hc j u hu; h _ _ _ h1 h2

mutual
theorem repC_mono {w w' : World} {S S' : Nat → Nat → Prop} (h : ∀ (b o : Nat) (v : Value), w.cell? ⟨b, o, none⟩ = some v → S b o → w'.cell? ⟨b, o, none⟩ = some v ∧ S' b o) : ∀ (x : Pl) (vs : List Value), repC w S x vs → repC w' S' x vs
  | .int _ _, _, hr => by simpa [repC] using hr
  | .bool _, _, hr => by simpa [repC] using hr
  | .str _, _, hr => by simpa [repC] using hr
  | .ptr0, _, hr => by simpa [repC] using hr
  | .fn0, _, hr => by simpa [repC] using hr
  | .if0, _, hr => by simpa [repC] using hr
  | .map0, _, hr => by simpa [repC] using hr
  | .fnv _, _, hr => by simpa [repC] using hr
  | .agg xs, vs, hr => by
    simp only [repC] at hr ⊢
    exact repCs_mono h xs vs hr
  | .arr n s xs, vs, hr => by
    simp only [repC] at hr ⊢
    exact ⟨hr.1, hr.2.1, repCs_mono h xs vs hr.2.2⟩
  | .sl nn s xs, vs, hr => by
    simp only [repC] at hr ⊢
    obtain ⟨h1, A, c, h2, h3, h4, h5, h6, h7⟩ := hr
    refine ⟨h1, A, c, h2, h3, h4, h5, h6, fun hne => ?_⟩
    obtain ⟨b, o, us, e1, e2, e3⟩ := h7 hne
    exact ⟨b, o, us, e1, repCs_mono h xs us e2, e3.mono h⟩
  | .iface t x, vs, hr => by
    simp only [repC] at hr ⊢
    obtain ⟨v, h1, h2, h3⟩ := hr
    refine ⟨v, h1, fun ha => ?_, fun ha => repC_mono h x _ (h3 ha)⟩
    obtain ⟨cs, e1, e2⟩ := h2 ha
    exact ⟨cs, e1, repC_mono h x _ e2⟩
theorem repCs_mono {w w' : World} {S S' : Nat → Nat → Prop} (h : ∀ (b o : Nat) (v : Value), w.cell? ⟨b, o, none⟩ = some v → S b o → w'.cell? ⟨b, o, none⟩ = some v ∧ S' b o) : ∀ (xs : List Pl) (vs : List Value), repCs w S xs vs → repCs w' S' xs vs
  | [], _, hr => by simpa [repCs] using hr
  | x :: xs, vs, hr => by
    simp only [repCs] at hr ⊢
    obtain ⟨us, us', h1, h2, h3⟩ := hr
    exact ⟨us, us', h1, repC_mono h x us h2, repCs_mono h xs us' h3⟩
end

/-- what a step must keep, leaf by leaf; 'k': the entries that this frame was given -/
structure Leaf (σ σ' : Sg) : Prop where
  cells : ∀ (b o : Nat) (v : Value), σ.w.cell? ⟨b, o, none⟩ = some v → σ.stab b o → σ'.w.cell? ⟨b, o, none⟩ = some v ∧ σ'.stab b o
  var : ∀ (id b : Nat), σ.m[id]? = some (some b) → (∃ d st, σ.H[id]? = some (.var d st)) → σ'.m[id]? = some (some b) ∧ ∃ d st, σ'.H[id]? = some (.var d st)
  front : ∀ (id s len : Nat) (A : Option Addr) (c : Nat), ownFront σ id s len A c → ownFront σ' id s len A c
  map : ∀ (id b : Nat), σ.m[id]? = some (some b) → (∃ t kvs, σ.H[id]? = some (.map t kvs)) → σ'.m[id]? = some (some b) ∧ ∃ t kvs, σ'.H[id]? = some (.map t kvs)

theorem Leaf.refl (σ : Sg) : Leaf σ σ := ⟨fun _ _ _ a b => ⟨a, b⟩, fun _ _ a b => ⟨a, b⟩, fun _ _ _ _ _ a => a, fun _ _ a b => ⟨a, b⟩⟩
theorem Leaf.trans {a b c : Sg} (h : Leaf a b) (k : Leaf b c) : Leaf a c :=
  ⟨fun x o v h1 h2 => let ⟨h3, h4⟩ := h.cells x o v h1 h2; k.cells x o v h3 h4, fun i x h1 h2 => let ⟨h3, h4⟩ := h.var i x h1 h2; k.var i x h3 h4,
    fun i s l A cc h1 => k.front i s l A cc (h.front i s l A cc h1), fun i x h1 h2 => let ⟨h3, h4⟩ := h.map i x h1 h2; k.map i x h3 h4⟩

mutual
theorem repD_leaf {σ σ' : Sg} (h : Leaf σ σ') : ∀ (d : Dv) (vs : List Value), repD σ d vs → repD σ' d vs
  | .p x, vs, hr => by
    simp only [repD] at hr ⊢
    exact repC_mono h.cells x vs hr
  | .elem x, vs, hr => by
    simp only [repD] at hr ⊢
    obtain ⟨b, o, us, h1, h2, h3⟩ := hr
    exact ⟨b, o, us, h1, repC_mono h.cells x us h2, h3.mono h.cells⟩
  | .ref id off path, vs, hr => by
    simp only [repD] at hr ⊢
    obtain ⟨b, h1, h2, h3⟩ := hr
    exact ⟨b, (h.var id b h1 h2).1, (h.var id b h1 h2).2, h3⟩
  | .own id nn s xs, vs, hr => by
    simp only [repD] at hr ⊢
    obtain ⟨h1, A, c, h2, h3, h4, h5, h6, h7, h8⟩ := hr
    refine ⟨h1, A, c, h2, h3, h4, h5, h6, fun hne => ?_, h.front _ _ _ _ _ h8⟩
    obtain ⟨b, o, us, e1, e2, e3⟩ := h7 hne
    exact ⟨b, o, us, e1, repCs_mono h.cells xs us e2, e3.mono h.cells⟩
  | .view id off path s lo n, vs, hr => by
    simp only [repD] at hr ⊢
    obtain ⟨b, c, a, h1, h2, h3⟩ := hr
    exact ⟨b, c, a, (h.var id b h1 h2).1, (h.var id b h1 h2).2, h3⟩
  | .agg xs, vs, hr => by
    simp only [repD] at hr ⊢
    exact repDs_leaf h xs vs hr
  | .arr n s xs, vs, hr => by
    simp only [repD] at hr ⊢
    exact ⟨hr.1, hr.2.1, repDs_leaf h xs vs hr.2.2⟩
  | .fn f cap, vs, hr => by
    simp only [repD] at hr ⊢
    obtain ⟨cs, h1, h2⟩ := hr
    exact ⟨cs, h1, repVs_leaf h cap _ h2⟩
  | .iface t x, vs, hr => by
    simp only [repD] at hr ⊢
    obtain ⟨v, h1, h2, h3⟩ := hr
    refine ⟨v, h1, fun ha => ?_, fun ha => repD_leaf h x _ (h3 ha)⟩
    obtain ⟨cs, e1, e2⟩ := h2 ha
    exact ⟨cs, e1, repD_leaf h x _ e2⟩
  | .tup xs, vs, hr => by
    simp only [repD] at hr ⊢
    obtain ⟨cs, h1, h2⟩ := hr
    exact ⟨cs, h1, repVs_leaf h xs _ h2⟩
  | .mp id, vs, hr => by
    simp only [repD] at hr ⊢
    obtain ⟨b, h1, h2, h3⟩ := hr
    exact ⟨b, (h.map id b h1 h2).1, (h.map id b h1 h2).2, h3⟩
  | .junk, _, hr => by simpa [repD] using hr
theorem repDs_leaf {σ σ' : Sg} (h : Leaf σ σ') : ∀ (ds : List Dv) (vs : List Value), repDs σ ds vs → repDs σ' ds vs
  | [], _, hr => by simpa [repDs] using hr
  | x :: xs, vs, hr => by
    simp only [repDs] at hr ⊢
    obtain ⟨us, us', h1, h2, h3⟩ := hr
    exact ⟨us, us', h1, repD_leaf h x us h2, repDs_leaf h xs us' h3⟩
theorem repVs_leaf {σ σ' : Sg} (h : Leaf σ σ') : ∀ (ds : List Dv) (vs : List Value), repVs σ ds vs → repVs σ' ds vs
  | [], _, hr => by simpa [repVs] using hr
  | x :: xs, vs, hr => by
    simp only [repVs] at hr ⊢
    obtain ⟨v, vs', h1, ⟨h2, h3⟩, h4⟩ := hr
    refine ⟨v, vs', h1, ⟨fun ha => ?_, fun ha => repD_leaf h x _ (h3 ha)⟩, repVs_leaf h xs vs' h4⟩
    obtain ⟨cs, e1, e2⟩ := h2 ha
    exact ⟨cs, e1, repD_leaf h x _ e2⟩
end
theorem repDV_leaf {σ σ' : Sg} (h : Leaf σ σ') {d : Dv} {v : Value} (hr : repDV σ d v) : repDV σ' d v := by
  obtain ⟨h2, h3⟩ := hr
  refine ⟨fun ha => ?_, fun ha => repD_leaf h d _ (h3 ha)⟩
  obtain ⟨cs, e1, e2⟩ := h2 ha
  exact ⟨cs, e1, repD_leaf h d _ e2⟩
end Go.Ev
