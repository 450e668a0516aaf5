/- The evaluator, part C: operations, regions, code. -/
import Derived.Test.YtpgogpohkldhaaaEvB
set_option linter.unusedVariables false
set_option linter.unusedSimpArgs false
namespace Go.Ev

abbrev NRes := Option (List Prop × Dv × List Hint)
abbrev HRes := Option (List Prop × Dv × List Ent × List Hint)

/-- a number of a kind: as it is, where it is in range, or wrapped -/
def arith (k : IntKind) (x : Int) : List Hint → NRes
  | .bare :: hs => some ([inKind k x], .p (.int k x), hs)
  | .raw :: hs => some ([], .p (.int k (k.wrap x)), hs)
  | _ => none

def natBits (op : BinOp) (a b : Nat) : Option Nat :=
  match op with
  | .and => some (a &&& b)
  | .or => some (a ||| b)
  | .xor => some (a ^^^ b)
  | _ => none

def evInt (op : BinOp) (k : IntKind) (x y : Int) (hs : List Hint) : NRes :=
  match op with
  | .add => arith k (x + y) hs
  | .sub => arith k (x - y) hs
  | .mul => arith k (x * y) hs
  | .quo => match hs with
    | .bare :: hs' => some ([0 ≤ x, 0 < y, inKind k (x / y)], .p (.int k (x / y)), hs')
    | .raw :: hs' => some ([y ≠ 0], .p (.int k (k.wrap (x.tdiv y))), hs')
    | _ => none
  | .rem => match hs with
    | .bare :: hs' => some ([0 ≤ x, 0 < y], .p (.int k (x % y)), hs')
    | .raw :: hs' => some ([y ≠ 0], .p (.int k (x.tmod y)), hs')
    | _ => none
  | .and | .or | .xor => match hs with
    | .bare :: hs' => (natBits op x.toNat y.toNat).map fun (r : Nat) => ([0 ≤ x, inKind k x, 0 ≤ y, inKind k y, inKind k (r : Int)], .p (.int k (r : Int)), hs')
    | .raw :: hs' => some ([], .p (.int k (bits op k x y)), hs')
    | _ => none
  | .andNot => match hs with
    | .raw :: hs' => some ([], .p (.int k (bits op k x y)), hs')
    | _ => none
  | .eql => some ([], .p (.bool (x == y)), hs)
  | .neq => some ([], .p (.bool (x != y)), hs)
  | .lss => some ([], .p (.bool (decide (x < y))), hs)
  | .leq => some ([], .p (.bool (decide (x ≤ y))), hs)
  | .gtr => some ([], .p (.bool (decide (x > y))), hs)
  | .geq => some ([], .p (.bool (decide (x ≥ y))), hs)
  | _ => none

def evShift (op : BinOp) (k : IntKind) (x y : Int) (hs : List Hint) : NRes :=
  match op, hs with
  | .shl, .bare :: hs' => some ([0 ≤ y, y.toNat < k.bits, inKind k (x * 2 ^ y.toNat)], .p (.int k (x * 2 ^ y.toNat)), hs')
  | .shl, .raw :: hs' => some ([0 ≤ y], .p (.int k (k.wrap (x * 2 ^ (min y.toNat k.bits)))), hs')
  | .shr, .bare :: hs' => some ([0 ≤ y, y.toNat ≤ k.bits], .p (.int k (x / 2 ^ y.toNat)), hs')
  | .shr, .raw :: hs' => some ([0 ≤ y], .p (.int k (x.fdiv (2 ^ (min y.toNat k.bits)))), hs')
  | _, _ => none

mutual
/-- data that hold no slice, no string, no address: equal just if they are the same -/
def Pl.flat : Pl → Bool
  | .int _ _ => true
  | .bool _ => true
  | .agg xs => Pl.flats xs
  | .arr _ _ xs => Pl.flats xs
  | _ => false
def Pl.flats : List Pl → Bool
  | [] => true
  | x :: r => x.flat && Pl.flats r
end

/-- data of a type that '==' looks through: numbers, bools, and arrays and structs of such -/
def fitFs (P : Program) (R : TypeId → Pl → Prop) : List Field → Nat → List Pl → Prop
  | [], _, [] => True
  | f :: fs, o, y :: ys => f.name ≠ "_" ∧ f.offset = o ∧ P.cellsOf f.type = y.size ∧ (P.info? f.type).isSome = true ∧ (P.underlying f.type).isSome = true ∧ isAggT P f.type = y.isAgg ∧ y.size ≠ 0 ∧ R f.type y ∧ fitFs P R fs (o + y.size) ys
  | _, _, _ => False
def fitP (P : Program) : Nat → TypeId → Pl → Prop
  | 0, _, _ => False
  | n + 1, t, x => match P.underlying t, x with
    | some .bool, .bool _ => True
    | some (.int k), .int k' _ => k' = k
    | some (.array m e), .arr m' s xs => m' = m ∧ P.cellsOf e = s ∧ s ≠ 0 ∧ (P.info? e).isSome = true ∧ (P.underlying e).isSome = true ∧ ∀ y, y ∈ xs → fitP P n e y ∧ y.size = s ∧ isAggT P e = y.isAgg
    | some (.struct fs), .agg xs => P.stoodInHeld t = false ∧ fitFs P (fitP P n) fs.toList 0 xs
    | _, _ => False

/-- '==' -/
def evEql (P : Program) (t : TypeId) (x y : Dv) (hs : List Hint) : Option (List Prop × Bool × List Hint) :=
  match P.underlying t, x, y with
  | some .bool, .p (.bool a), .p (.bool b) => some ([], a == b, hs)
  | some (.pointer _), .ref _ _ _, .p .ptr0 => some ([], false, hs)
  | some (.pointer _), .elem _, .p .ptr0 => some ([], false, hs)
  | some (.pointer _), .p .ptr0, .p .ptr0 => some ([], true, hs)
  | some (.slice _), .p (.sl nn _ _), .p (.sl false _ []) => some ([], !nn, hs)
  | some (.slice _), .own _ nn _ _, .p (.sl false _ []) => some ([], !nn, hs)
  | some (.slice _), .view _ _ _ _ _ _, .p (.sl false _ []) => some ([], false, hs)
  | some (.func _ _ _), .fn _ _, .p .fn0 => some ([], false, hs)
  | some (.func _ _ _), .p .fn0, .p .fn0 => some ([], true, hs)
  | some (.array _ _), .p (.arr n s xs), .p (.arr m r ys) => match hs with
    | .b β :: hs' => if P.eqGuardType P.depth t = false then some ([fitP P 20 t (.arr n s xs), fitP P 20 t (.arr m r ys), (β = true ↔ Pl.arr n s xs = Pl.arr m r ys)], β, hs') else none
    | _ => none
  | some (.struct _), .p (.agg xs), .p (.agg ys) => match hs with
    | .b β :: hs' => if P.eqGuardType P.depth t = false then some ([fitP P 20 t (.agg xs), fitP P 20 t (.agg ys), (β = true ↔ Pl.agg xs = Pl.agg ys)], β, hs') else none
    | _ => none
  | _, _, _ => none

def isShift : BinOp → Bool
  | .shl => true
  | .shr => true
  | _ => false

def evBin (P : Program) (op : BinOp) (t : TypeId) (x y : Dv) (hs : List Hint) : NRes :=
  match x, y with
  | .p (.int k a), .p (.int k' b) => if isShift op then evShift op k a b hs else if k = k' then evInt op k a b hs else none
  | .p (.str a), .p (.str b) => match op with
    | .eql => some ([], .p (.bool (a.data.toList == b.data.toList)), hs)
    | .neq => some ([], .p (.bool (!(a.data.toList == b.data.toList))), hs)
    | _ => none
  | x, y => match op with
    | .eql => (evEql P t x y hs).map fun r => (r.1, .p (.bool r.2.1), r.2.2)
    | .neq => (evEql P t x y hs).map fun r => (r.1, .p (.bool (!r.2.1)), r.2.2)
    | _ => none

/-- a part of a struct: the place is right, and the part has the field's size and shape -/
def fieldOk (P : Program) (fs : Array Field) (i : Nat) (before : Nat) (size : Nat) (isAgg : Bool) : Bool :=
  match fs[i]? with
  | some f => f.offset == before && P.cellsOf f.type == size && (P.info? f.type).isSome && isAggT P f.type == isAgg && (P.underlying f.type).isSome && size != 0
  | none => false

def fieldOf (P : Program) (t : TypeId) (x : Dv) (i : Nat) : Option Dv :=
  match P.underlying t, x with
  | some (.struct fs), .p (.agg xs) => match xs[i]? with
    | some y => if fieldOk P fs i (Pl.sizes (xs.take i)) y.size y.isAgg then some (.p y) else none
    | none => none
  | some (.struct fs), .agg xs => match xs[i]? with
    | some y => if fieldOk P fs i (Dv.sizes (xs.take i)) y.size y.isAgg then some y else none
    | none => none
  | _, _ => none

/-- the bounds of a slice expression: low and high, as numbers -/
def lowOf (P : Program) (ts : List Dv) : Option Operand → Option (Option Int)
  | none => some none
  | some x => match argD P ts 0 x with
    | .p (.int _ i) => some (some i)
    | _ => none

def cutList {α : Type} (xs : List α) : Option Int → Option Int → List α
  | none, none => xs
  | none, some h => xs.take h.toNat
  | some l, none => xs.drop l.toNat
  | some l, some h => (xs.take h.toNat).drop l.toNat

def cutConds (len : Nat) : Option Int → Option Int → List Prop
  | none, none => []
  | none, some h => [0 ≤ h, h ≤ (len : Int)]
  | some l, none => [0 ≤ l, l ≤ (len : Int)]
  | some l, some h => [0 ≤ l, l ≤ h, h ≤ (len : Int)]

def setAt (ds : List Dv) (i : Nat) (d : Dv) : Option (List Dv) :=
  match ds[i]? with
  | some old => if old.size = d.size then some (ds.set i d) else none
  | none => none

def setAll : List Dv → List (Nat × Dv) → Option (List Dv)
  | ds, [] => some ds
  | ds, (i, d) :: r => (setAt ds i d).bind fun ds' => setAll ds' r

def solidAll (l : List (Nat × Dv)) : Bool := l.all fun q => q.2.solid

def tupAll (P : Program) (ts : List Dv) (f : Nat → TypeId) (parts : List (Nat × Operand)) : List (Nat × Dv) :=
  parts.map fun q => (q.1, argD P ts (f q.1) q.2)

def fieldT (P : Program) (t : TypeId) (i : Nat) : TypeId :=
  match P.underlying t with
  | some (.struct fs) => ((fs[i]?).map (·.type)).getD 0
  | some (.array _ e) => e
  | some (.slice e) => e
  | _ => 0

def zeroD (P : Program) (t : TypeId) : Dv :=
  match P.info? t with
  | some i => match i.zero with
    | some v => constD P t v
    | none => .junk
  | none => .junk

/-- an argument: what is owned is handed on as what it reads -/
def Dv.arg : Dv → Dv
  | .own _ nn s xs => .p (.sl nn s xs)
  | d => d

def callArgs (P : Program) (ts : List Dv) (c : Call) (cap : List Dv) : List Dv :=
  ((c.args.toList.zip c.argTypes.toList).map fun q => (argD P ts q.2 q.1).arg) ++ cap.map Dv.arg

/-- what is appended: its elements -/
def srcOf (P : Program) (s : Nat) (t : TypeId) (d : Dv) : Option (List Pl) :=
  match P.underlying t, d with
  | some (.slice e), .p (.sl _ s' xs) => if s' = s ∨ xs.isEmpty then some xs else none
  | some (.slice e), .own _ _ s' xs => if s' = s then some xs else none
  | some .string, .p (.str z) => if s = 1 then some (z.data.toList.map fun b => .int .u8 (b.toNat : Int)) else none
  | _, _ => none

/-- the parts of a slice literal, in order, each once -/
def litParts (P : Program) (ts : List Dv) (e : TypeId) (s : Nat) (len : Nat) (parts : List (Nat × Operand)) : Option (List Pl) :=
  if parts.map (·.1) == List.range len then
    match plains (parts.map fun q => argD P ts e q.2) with
    | some xs => if xs.all (fun x => x.size == s) then some xs else none
    | none => none
  else none

def bytesBound : Nat := 140737488355328

/-- a type's row of the table is in order -/
def zOk (i : TypeInfo) : Bool :=
  match i.zero with
  | some z => z.cells.size == i.size
  | none => false

/-- a function with a body -/
def bodied (P : Program) (g : FuncId) : Bool :=
  match P.funcs[g]? with
  | some fn => fn.body.isSome && !(fn.name == "runtime.NumGoroutine")
  | none => false

/-- operations that neither look at the entries nor turn them -/
def evN (P : Program) (o : Oper) (ts : List Dv) (hs : List Hint) : NRes :=
  match o.op with
  | .move x => some ([], argD P ts o.type x, hs)
  | .assign x => match hs with
    | .fresh t :: hs' => if o.dst = some t then none else some ([], argD P ts o.type x, .fresh t :: hs')
    | hs => some ([], argD P ts o.type x, hs)
  | .pick c a b => match argD P ts 0 c, hs with
    | .p (.bool t), .b β :: hs' => some ([t = β], if β then argD P ts o.type a else argD P ts o.type b, hs')
    | _, _ => none
  | .nilCheck x => match argD P ts 0 x with
    | .ref i f p => some ([], .ref i f p, hs)
    | .elem y => some ([], .elem y, hs)
    | .fn f c => some ([], .fn f c, hs)
    | _ => none
  | .binOp op t x y yt => evBin P op t (argD P ts t x) (argD P ts yt y) hs
  | .unOp .not _ x => match argD P ts 0 x with
    | .p (.bool t) => some ([], .p (.bool (!t)), hs)
    | _ => none
  | .unOp .neg _ x => match argD P ts 0 x with
    | .p (.int k n) => arith k (0 - n) hs
    | _ => none
  | .convert src dst x => match P.underlying src, P.underlying dst, argD P ts src x with
    | some _, some (.int k), .p (.int _ n) => arith k n hs
    | _, _, _ => none
  | .makeFunc (.func f) first captured => if first.isEmpty then some ([], .fn f (captured.toList.map (argD P ts 0)), hs) else none
  | .field t x i => (fieldOf P t (argD P ts t x) i).map fun d => ([], d, hs)
  | .fieldAddr t x i => match P.underlying t, argD P ts 0 x with
    | some (.struct fs), .ref id off path => match fs[i]? with
      | some f => if P.cellsOf f.type != 0 && (P.info? f.type).isSome then some ([], .ref id (off + f.offset) (path ++ [i]), hs) else none
      | none => none
    | some (.struct _), .elem y => match fieldOf P t (.p y) i with
      | some (.p z) => some ([], .elem z, hs)
      | _ => none
    | _, _ => none
  | .indexAddr t x ix => match P.underlying t, argD P ts t x, argD P ts 0 ix with
    | some (.slice e), .p (.sl _ s xs), .p (.int _ i) => match hs with
      | .el y :: hs' => if P.cellsOf e = s && (P.info? e).isSome then some ([0 ≤ i, xs[i.toNat]? = some y], .elem y, hs') else none
      | _ => none
    | some (.slice e), .own _ _ s xs, .p (.int _ i) => match hs with
      | .el y :: hs' => if P.cellsOf e = s && (P.info? e).isSome then some ([0 ≤ i, xs[i.toNat]? = some y], .elem y, hs') else none
      | _ => none
    | some (.slice e), .view id off path s lo n, .p (.int _ i) =>
      if P.cellsOf e = s && (P.info? e).isSome then some ([0 ≤ i, i < (n : Int)], .ref id (off + (lo + i.toNat) * s) (path ++ [lo + i.toNat]), hs) else none
    | some (.array n e), .ref id off path, .p (.int _ i) =>
      if (P.info? e).isSome then some ([0 ≤ i, i < (n : Int)], .ref id (off + i.toNat * P.cellsOf e) (path ++ [i.toNat]), hs) else none
    | some (.array n e), .elem (.arr n' s xs), .p (.int _ i) => match hs with
      | .el y :: hs' => if n = n' && P.cellsOf e = s && (P.info? e).isSome then some ([0 ≤ i, xs[i.toNat]? = some y], .elem y, hs') else none
      | _ => none
    | _, _, _ => none
  | .index t x ix => match P.underlying t, argD P ts t x, argD P ts 0 ix with
    | some (.array n e), .p (.arr n' s xs), .p (.int _ i) => match hs with
      | .el y :: hs' => if n = n' && P.cellsOf e = s && isAggT P e == y.isAgg && (P.underlying e).isSome && (P.info? e).isSome && s != 0 then some ([0 ≤ i, xs[i.toNat]? = some y], .p y, hs') else none
      | _ => none
    | _, _, _ => none
  | .slice t x lo hi none => match P.underlying t, argD P ts t x, lowOf P ts lo, lowOf P ts hi with
    | some (.slice e), .p (.sl nn s xs), some l, some h =>
      if P.cellsOf e = s && (P.info? e).isSome then some (cutConds xs.length l h, .p (.sl nn s (cutList xs l h)), hs) else none
    | some (.slice e), .own _ nn s xs, some l, some h =>
      if P.cellsOf e = s && (P.info? e).isSome then some (cutConds xs.length l h, .p (.sl nn s (cutList xs l h)), hs) else none
    | some (.slice e), .view id off path s lo n, some l, some h =>
      if P.cellsOf e = s && (P.info? e).isSome then some (cutConds n l h, .view id off path s (lo + (l.getD 0).toNat) ((h.getD n).toNat - (l.getD 0).toNat), hs) else none
    | some (.array n e), .elem (.arr n' s xs), some l, some h =>
      if n = n' && P.cellsOf e = s && (P.info? e).isSome && n ≤ maxLen then some (cutConds n l h, .p (.sl true s (cutList xs l h)), hs) else none
    | some (.array n e), .ref id off path, some l, some h => match hs with
      | .raw :: hs' => if (P.info? e).isSome && n ≤ maxLen then some (cutConds n l h, .view id off path (P.cellsOf e) (l.getD 0).toNat ((h.getD n).toNat - (l.getD 0).toNat), hs') else none
      | _ => none
    | _, _, _, _ => none
  | .extract x i => match argD P ts 0 x with
    | .tup ds => (ds[i]?).map fun d => ([], d, hs)
    | _ => none
  | .load t a => match argD P ts 0 a with
    | .elem y => if P.cellsOf t = y.size && isAggT P t == y.isAgg && (P.underlying t).isSome && (P.info? t).isSome then some ([], .p y, hs) else none
    | _ => none
  | .build t parts => match P.underlying t, zeroD P t with
    | some (.struct fs), .p (.agg zs) =>
      if solidAll (tupAll P ts (fieldT P t) parts.toList) && fs.size == zs.length && (List.range zs.length).all fun i => fieldOk P fs i (Pl.sizes (zs.take i)) ((zs.getD i default).size) ((zs.getD i default).isAgg) then
        (setAll (zs.map .p) (tupAll P ts (fieldT P t) parts.toList)).map fun ds => ([], mkAgg ds, hs)
      else none
    | some (.array _ e), .p (.arr n s zs) =>
      if solidAll (tupAll P ts (fieldT P t) parts.toList) && P.cellsOf e = s && (P.info? e).isSome then
        (setAll (zs.map .p) (tupAll P ts (fieldT P t) parts.toList)).bind fun ds => match plains ds with
          | some xs => some ([], .p (.arr n s xs), hs)
          | none => some ([], .arr n s ds, hs)
      else none
    | _, _ => none
  | .call c => match c.callee with
    | .builtin .len => match c.args.toList, c.argTypes.toList with
      | [x], [t] => match P.underlying t, argD P ts t x with
        | some (.slice _), .p (.sl _ _ xs) => some ([], .p (.int .i64 (xs.length : Int)), hs)
        | some (.slice _), .own _ _ _ xs => some ([], .p (.int .i64 (xs.length : Int)), hs)
        | some (.slice _), .view _ _ _ _ _ n => some ([], .p (.int .i64 (n : Int)), hs)
        | some (.array n _), _ => some ([], .p (.int .i64 (n : Int)), hs)
        | some .string, .p (.str s) => some ([], .p (.int .i64 (s.size : Int)), hs)
        | _, _ => none
      | _, _ => none
    | .builtin .append => match c.args.toList, c.argTypes.toList, hs with
      | [x, y], [t, u], .snap :: hs' => match P.underlying t, argD P ts t x with
        | some (.slice e), .p (.sl false _ []) => match P.info? e, srcOf P (P.cellsOf e) u (argD P ts u y) with
          | some i, some ys => if zOk i && i.size != 0 then some ([ys.length * i.bytes ≤ bytesBound, ys.length ≤ maxLen], .p (.sl (!ys.isEmpty) (P.cellsOf e) ys), hs') else none
          | _, _ => none
        | _, _ => none
      | _, _, _ => none
    | .value f => match argD P ts 0 f, hs with
      | .fn g cap, .call r [] [] :: hs' =>
        if bodied P g && c.args.size == c.argTypes.size then match Dv.rns (fun _ => none) (callArgs P ts c cap), r.rn (fun _ => none) with
          | some args', some _ => some ([Con P g args' [] r []], r, hs')
          | _, _ => none
        else none
      | _, _ => none
    | _ => none
  | .buildSlice t len parts => match hs with
    | .snap :: hs' => match P.underlying t with
      | some (.slice e) => match P.info? e, litParts P ts e (P.cellsOf e) len parts.toList with
        | some i, some xs => if zOk i && i.size != 0 && len * i.size ≤ 16777216 then some ([], .p (.sl true i.size xs), hs') else none
        | _, _ => none
      | _ => none
    | _ => none
  | _ => none

/-! ### What looks at the entries, and what turns them -/

/-- the part of a datum at a path: its place, itself -/
def getAt : Dv → List Nat → List Hint → Option (List Prop × Nat × Dv × List Hint)
  | d, [], hs => some ([], 0, d, hs)
  | .p (.agg xs), i :: r, hs => match xs[i]? with
    | some x => (getAt (.p x) r hs).map fun q => (q.1, Pl.sizes (xs.take i) + q.2.1, q.2.2)
    | none => none
  | .p (.arr _ s xs), i :: r, hs => match hs with
    | .el y :: hs' => (getAt (.p y) r hs').map fun q => ((xs[i]? = some y) :: q.1, i * s + q.2.1, q.2.2)
    | _ => none
  | .agg xs, i :: r, hs => match xs[i]? with
    | some x => (getAt x r hs).map fun q => (q.1, Dv.sizes (xs.take i) + q.2.1, q.2.2)
    | none => none
  | .arr _ s xs, i :: r, hs => match xs[i]? with
    | some x => (getAt x r hs).map fun q => (q.1, i * s + q.2.1, q.2.2)
    | none => none
  | _, _, _ => none

/-- the datum with another part at a path -/
def putAt (new : Dv) : Dv → List Nat → List Hint → Option Dv
  | _, [], _ => some new
  | .p (.agg xs), i :: r, hs => match xs[i]? with
    | some x => match putAt new (.p x) r hs with
      | some (.p y) => some (.p (.agg (xs.set i y)))
      | _ => none
    | none => none
  | .p (.arr n s xs), i :: r, hs => match hs with
    | .el y :: hs' => match putAt new (.p y) r hs' with
      | some (.p z) => some (.p (.arr n s (xs.set i z)))
      | _ => none
    | _ => none
  | .agg xs, i :: r, hs => match xs[i]? with
    | some x => (putAt new x r hs).map fun y => .agg (xs.set i y)
    | none => none
  | .arr n s xs, i :: r, hs => match xs[i]? with
    | some x => (putAt new x r hs).map fun y => .arr n s (xs.set i y)
    | none => none
  | _, _, _ => none

def okT (P : Program) (t : TypeId) (d : Dv) : Bool :=
  P.cellsOf t == d.size && isAggT P t == d.isAgg && (P.underlying t).isSome && (P.info? t).isSome

/-- operations that look at the entries -/
def evR (P : Program) (o : Oper) (ts : List Dv) (H : List Ent) (hs : List Hint) : NRes :=
  match o.op with
  | .load t a => match argD P ts 0 a with
    | .ref id off path => match H[id]? with
      | some (.var d _) => match getAt d path hs with
        | some (C, off', sub, hs') => if okT P t sub then some (C ++ [off' = off], sub, hs') else none
        | none => none
      | _ => none
    | _ => none
  | _ => none

/-- numbers of entries: the caller's, the callee's -/
def toIds (ids : List Nat) (id : Nat) : Option Nat := ids.idxOf? id
def fromIds (ids : List Nat) (n : Nat) (j : Nat) : Option Nat := if j < ids.length then ids[j]? else some (n + (j - ids.length))
def subEnts (H : List Ent) (all : List Nat) : List Nat → Option (List Ent)
  | [] => some []
  | id :: r => match (H[id]?).bind (Ent.rn (toIds all)), subEnts H all r with
    | some e, some es => some (e :: es)
    | _, _ => none
def putBack {α : Type} : List α → List Nat → List α → List α
  | H, [], Hb => H ++ Hb
  | H, id :: r, e :: Hb => putBack (H.set id e) r Hb
  | H, _ :: _, [] => H
/-- no number twice -/
def once : List Nat → Bool
  | [] => true
  | x :: r => !r.contains x && once r

/-- a stored value: what is owned is stored as what it reads, but in an object -/
def storeD (path : List Nat) (d : Dv) (new : Dv) : Option Dv :=
  match d with
  | .p _ => (new.plain).map .p
  | _ => match path with
    | [] => (new.plain).map .p
    | _ => some new

/-- the list of which a part is laid anew -/
def laidAt (xs ys : List Pl) (lo : Nat) : List Pl := xs.take lo ++ (ys ++ xs.drop (lo + ys.length))

/-- what is appended, where it may be a part of a variable -/
def srcH (P : Program) (s : Nat) (t : TypeId) (H : List Ent) (hs : List Hint) (d : Dv) : Option (List Prop × List Pl × List Hint) :=
  match d with
  | .view id off path s' lo n => match P.underlying t, H[id]? with
    | some (.slice _), some (.var dd _) => match getAt dd path hs with
      | some (C, off', .p (.arr N s'' zs), hs') => if s' = s && s'' = s then some (C ++ [off' = off, lo + n ≤ N], (zs.drop lo).take n, hs') else none
      | _ => none
    | _, _ => none
  | d => (srcOf P s t d).map fun ys => ([], ys, hs)

/-- operations that turn the entries -/
def evE (P : Program) (o : Oper) (ts : List Dv) (H : List Ent) (hs : List Hint) : HRes :=
  match o.op with
  | .assign x => match hs with
    | .fresh t' :: hs' => if o.dst = some t' then match P.underlying o.type, argD P ts o.type x with
        | some (.slice e), .p (.sl false _ []) => match P.info? e with
          | some i => if zOk i && i.size != 0 then some ([], .own H.length false i.size [], H ++ [.log i.size e []], hs') else none
          | none => none
        | _, _ => none
      else none
    | _ => none
  | .alloc t => match P.info? t with
    | some i => if zOk i && okT P t (zeroD P t) && (zeroD P t).solid then some ([], .ref H.length 0 [], H ++ [.var (zeroD P t) true], hs) else none
    | none => none
  | .box t x =>
    let d := (argD P ts t x)
    match d.plain with
    | some y => match hs with
      | .fresh t' :: hs' => if o.dst = some t' then match y with
          | .agg xs => some ([], .ref H.length 0 [], H ++ [.var (.agg (xs.map .p)) true], hs')
          | _ => none
        else some ([], .ref H.length 0 [], H ++ [.var (.p y) true], .fresh t' :: hs')
      | _ => some ([], .ref H.length 0 [], H ++ [.var (.p y) true], hs)
    | none => if d.solid then some ([], .ref H.length 0 [], H ++ [.var d true], hs) else none
  | .store t a x => match argD P ts 0 a, argD P ts t x with
    | .ref id off path, v => match H[id]? with
      | some (.var d true) => match getAt d path hs with
        | some (C, off', sub, hs') => match storeD path d v with
          | some new => match putAt new d path hs with
            | some d' => if new.solid && new.size == sub.size && P.cellsOf t == new.size && (P.info? t).isSome && new.isAgg == sub.isAgg then some (C ++ [off' = off], .junk, H.set id (.var d' true), hs') else none
            | none => none
          | none => none
        | none => none
      | _ => none
    | _, _ => none
  | .buildSlice t len parts => match hs with
    | .own :: hs' => match P.underlying t with
      | some (.slice e) => match P.info? e, litParts P ts e (P.cellsOf e) len parts.toList with
        | some i, some xs => if zOk i && i.size != 0 && len * i.size ≤ 16777216 then some ([], .own H.length true i.size xs, H ++ [.log i.size e xs], hs') else none
        | _, _ => none
      | _ => none
    | _ => none
  | .slice t x lo hi none => match P.underlying t, argD P ts t x, lowOf P ts lo, lowOf P ts hi with
    | some (.array n e), .ref id off path, some l, some h => match hs with
      | .frz :: hs' => match H[id]? with
        | some (.var d _) => match getAt d path hs' with
          | some (C, off', .p (.arr n' s xs), hs'') =>
            if n = n' && P.cellsOf e = s && (P.info? e).isSome && n ≤ maxLen then some (C ++ [off' = off] ++ cutConds n l h, .p (.sl true s (cutList xs l h)), H.set id (.var d false), hs'') else none
          | _ => none
        | _ => none
      | _ => none
    | _, _, _, _ => none
  | .call c => match c.callee with
    | .builtin .append => match c.args.toList, c.argTypes.toList with
      | [x, y], [t, u] => match P.underlying t, argD P ts t x with
        | some (.slice e), .own id nn s xs => match P.info? e, srcH P s u H hs (argD P ts u y), H[id]? with
          | some i, some (C, ys, hs'), some (.log s' e' zs) => if zOk i && i.size = s && s' = s && e' = e && s != 0 then
              some (C ++ [zs = xs, (xs.length + ys.length) * i.bytes ≤ bytesBound, xs.length + ys.length ≤ maxLen], .own id (nn || !ys.isEmpty) s (xs ++ ys), H.set id (.log s e (xs ++ ys)), hs') else none
          | _, _, _ => none
        | some (.slice e), .p (.sl false _ []) => match hs, P.info? e, srcOf P (P.cellsOf e) u (argD P ts u y) with
          | .own :: hs', some i, some ys => if zOk i && i.size != 0 then
              some ([ys.length * i.bytes ≤ bytesBound, ys.length ≤ maxLen], .own H.length (!ys.isEmpty) i.size ys, H ++ [.log i.size e ys], hs') else none
          | _, _, _ => none
        | _, _ => none
      | _, _ => none
    | .builtin .copy => match c.args.toList, c.argTypes.toList with
      | [x, y], [t, u] => match P.underlying t, argD P ts t x with
        | some (.slice e), .view id off path s lo n => match srcOf P s u (argD P ts u y), H[id]? with
          | some ys, some (.var dd true) => match getAt dd path hs with
            | some (C, off', .p (.arr N s' xs), hs') => match putAt (.p (.arr N s' (laidAt xs ys lo))) dd path hs with
              | some dd' => if s' = s && P.cellsOf e = s && (P.info? e).isSome then some (C ++ [off' = off, ys.length ≤ n, lo + n ≤ N], .p (.int .i64 (ys.length : Int)), H.set id (.var dd' true), hs') else none
              | none => none
            | _ => none
          | _, _ => none
        | _, _ => none
      | _, _ => none
    | .value f => match argD P ts 0 f, hs with
      | .fn g cap, .call r H' ids :: hs' =>
        if bodied P g && c.args.size == c.argTypes.size && once ids && ids.length ≤ H'.length then
          match Dv.rns (toIds ids) (callArgs P ts c cap), subEnts H ids ids, r.rn (fromIds ids H.length), Ent.rns (fromIds ids H.length) H' with
          | some args', some Hin, some r', some Hb => some ([Con P g args' Hin r H'], r', putBack H ids Hb, hs')
          | _, _, _, _ => none
        else none
      | _, _ => none
    | _ => none
  | _ => none

def evOp (P : Program) (o : Oper) (ts : List Dv) (H : List Ent) (hs : List Hint) : HRes :=
  match evN P o ts hs with
  | some (C, d, hs') => some (C, d, H, hs')
  | none => match evR P o ts H hs with
    | some (C, d, hs') => some (C, d, H, hs')
    | none => evE P o ts H hs

def putT (ts : List Dv) (dst : Option Tmp) (d : Dv) : List Dv :=
  match dst with
  | some i => ts.set i d
  | none => ts

/-- what the next hint says in the place of a value -/
def over (dst : Option Tmp) (d : Dv) : List Hint → List Prop × Dv × List Hint
  | .sub t d' :: hs => if dst = some t then ([d = d'], d', hs) else ([], d, .sub t d' :: hs)
  | hs => ([], d, hs)

def guardOf (ops : Array Oper) (ts : List Dv) (j : Nat) : Option Bool → Option Dv
  | _ => ((ops[j]?).bind (·.dst)).map fun t => ts.getD t .junk

/-- one operation of a region, its guard first -/
def evG (P : Program) (ops : Array Oper) (o : Oper) (ts : List Dv) (H : List Ent) (hs : List Hint) : HRes :=
  match o.guard with
  | none => (evOp P o ts H hs).map fun (C, d, H', hs') => (C ++ (over o.dst d hs').1, (over o.dst d hs').2.1, H', (over o.dst d hs').2.2)
  | some (j, want) => match ((ops[j]?).bind (·.dst)).map fun t => ts.getD t .junk, hs with
    | some (.p (.bool t)), .b β :: hs' =>
      if β = want then (evOp P o ts H hs').map fun (C, d, H', hs'') => ((t = β) :: C ++ (over o.dst d hs'').1, (over o.dst d hs'').2.1, H', (over o.dst d hs'').2.2)
      else some ([t = β], .tup [], H, hs')
    | some (.tup []), .raw :: hs' => some ([], .tup [], H, hs')
    | _, _ => none

def evOps (P : Program) (ops : Array Oper) : List Oper → List Dv → List Ent → List Hint → Option (List Prop × List Dv × List Ent × List Hint)
  | [], ts, H, hs => some ([], ts, H, hs)
  | o :: rest, ts, H, hs => match evG P ops o ts H hs with
    | some (C, d, H', hs') => match evOps P ops rest (putT ts o.dst d) H' hs' with
      | some (C', ts', H'', hs'') => some (C ++ C', ts', H'', hs'')
      | none => none
    | none => none

/-! ### A region whose order is drawn -/

/-- the slots that an operation looks at -/
def looks (ops : Array Oper) (o : Oper) : List Nat :=
  (o.op.operands.toList.filterMap fun x => match x with | .tmp t => some t | _ => none) ++
  (match o.guard with | some (g, _) => ((ops[g]?).bind (·.dst)).toList | none => [])

def maskFrom (keep : List Nat) : Nat → List Dv → List Dv
  | _, [] => []
  | i, d :: r => (if keep.contains i then d else .junk) :: maskFrom keep (i + 1) r

/-- does it look at the entries, turn them? -/
def clsOf (P : Program) (o : Oper) (ts : List Dv) (H : List Ent) (hs : List Hint) : Nat :=
  match o.guard, hs with
  | some (_, want), .b β :: hs' => if β = want then (if (evN P o ts hs').isSome then 0 else if (evR P o ts H hs').isSome then 1 else 2) else 0
  | some _, .raw :: _ => 0
  | _, hs => if (evN P o ts hs).isSome then 0 else if (evR P o ts H hs).isSome then 1 else 2

structure Rec where
  hs : List Hint
  C : List Prop
  d : Dv
  H : List Ent
  H' : List Ent
  hs' : List Hint
  cls : Nat

def evD (P : Program) (ops : Array Oper) : List Oper → List Dv → List Ent → List Hint → Option (List Prop × List Rec × List Dv × List Ent × List Hint)
  | [], ts, H, hs => some ([], [], ts, H, hs)
  | o :: rest, ts, H, hs => match evG P ops o (maskFrom (looks ops o) 0 ts) H hs with
    | some (C, d, H', hs') => match evD P ops rest (putT ts o.dst d) H' hs' with
      | some (C', rs, ts', H'', hs'') => some (C ++ C', ⟨hs, C, d, H, H', hs', clsOf P o (maskFrom (looks ops o) 0 ts) H hs⟩ :: rs, ts', H'', hs'')
      | none => none
    | none => none

/-- which operations come ahead of one: as bits -/
def ancStep (A : List Nat) (i : Nat) (o : Oper) : Nat :=
  o.after.toList.foldl (fun m e => if Region.binds .any e && decide (e.on < i) then m ||| (1 <<< e.on) ||| A.getD e.on 0 else m) 0
def ancGo : List Oper → Nat → List Nat → List Nat
  | [], _, A => A
  | o :: r, i, A => ancGo r (i + 1) (A ++ [ancStep A i o])
def ancOf (ops : List Oper) : List Nat := ancGo ops 0 []

/-- edges lead back -/
def edgesBack (l : List Oper) : Nat → Bool
  | i => match l with
    | [] => true
    | o :: r => (o.after.toList.all fun e => !Region.binds .any e || decide (e.on < i)) && edgesBack r (i + 1)

def dstOf (l : List Oper) (i : Nat) : Option Tmp := (l[i]?).bind (·.dst)

def drawOk (ops : Array Oper) (cls : List Nat) : Bool :=
  let l := ops.toList
  let A := ancOf l
  let n := l.length
  (cls.length == n) && edgesBack l 0 &&
  ((List.range n).all fun i => match l[i]? with | some o => A.getD i 0 == ancStep A i o | none => true) &&
  -- each slot is written once
  ((List.range n).all fun i => (List.range n).all fun j => i == j || dstOf l i == none || !(dstOf l i == dstOf l j)) &&
  -- who writes what another one looks at, comes ahead of it or behind it, as in the text
  ((List.range n).all fun i => match l[i]? with
    | some o => let k := looks ops o
      (List.range n).all fun j => match dstOf l j with
        | some t => i == j || !(k.contains t) || (if j < i then (A.getD i 0).testBit j else (A.getD j 0).testBit i)
        | none => true
    | none => true) &&
  -- so do those that turn the entries, and those that look at them or turn them
  ((List.range n).all fun i => cls.getD i 0 == 0 || (List.range n).all fun j => i == j || !(cls.getD j 0 == 2) || (if j < i then (A.getD i 0).testBit j else (A.getD j 0).testBit i))

def evDraw (P : Program) (ops : Array Oper) (ts : List Dv) (H : List Ent) (hs : List Hint) : Option (List Prop × List Dv × List Ent × List Hint) :=
  if P.follows .mixedOrders then
    match evD P ops ops.toList ts H hs with
    | some (C, rs, ts', H', hs') => if drawOk ops (rs.map (·.cls)) then some (C, ts', H', hs') else none
    | none => none
  else none

def junkAll (ts : List Dv) : List Nat → List Dv
  | [] => ts
  | i :: r => junkAll (ts.set i .junk) r

abbrev CRes := Option (List Prop × Ex × List Dv × List Ent × List Hint)

def ev (P : Program) : Code → List Dv → List Ent → List Hint → CRes
  | .skip, ts, H, hs => some ([], .normal, ts, H, hs)
  | .label _, ts, H, hs => some ([], .normal, ts, H, hs)
  | .region _ ops draw, ts, H, hs => if draw then (evDraw P ops ts H hs).map fun (C, ts', H', hs') => (C, .normal, ts', H', hs') else (evOps P ops ops.toList ts H hs).map fun (C, ts', H', hs') => (C, .normal, ts', H', hs')
  | .seq x y, ts, H, hs => match ev P x ts H hs with
    | some (C, .normal, ts', H', hs') => match ev P y ts' H' hs' with
      | some (C', ex, ts'', H'', hs'') => some (C ++ C', ex, ts'', H'', hs'')
      | none => none
    | r => r
  | .cond c x y, ts, H, hs => match argD P ts 0 c, hs with
    | .p (.bool t), .b true :: hs' => (ev P x ts H hs').map fun (C, r) => ((t = true) :: C, r)
    | .p (.bool t), .b false :: hs' => (ev P y ts H hs').map fun (C, r) => ((t = false) :: C, r)
    | _, _ => none
  | .block id body, ts, H, hs => match ev P body ts H hs with
    | some (C, .exit id', ts', H', hs') => some (C, if id' = id then .normal else .exit id', ts', H', hs')
    | r => r
  | .loop body, ts, H, hs => match hs with
    | .loop mask ex ts' H' :: hs' => if ex = .normal then none else some ([Runs P (.loop body) (junkAll ts mask) H ex ts' H'], ex, ts', H', hs')
    | _ => none
  | .scope body, ts, H, hs => ev P body ts H hs
  | .exit id, ts, H, hs => some ([], .exit id, ts, H, hs)
  | .ret, ts, H, hs => some ([], .ret, ts, H, hs)
  | _, _, _, _ => none

/-- the results of a function -/
def resD (P : Program) (ts : List Dv) (H : List Ent) : List ResultVar → List Hint → Option (List Prop × List Dv)
  | [], _ => some ([], [])
  | .tmp t :: r, hs => (resD P ts H r hs).map fun q => (q.1, ts.getD t .junk :: q.2)
  | .cell a ty :: r, hs => match ts.getD a .junk with
    | .ref id off path => match H[id]? with
      | some (.var d _) => match getAt d path hs with
        | some (C, off', sub, hs') => if okT P ty sub then (resD P ts H r hs').map fun q => (C ++ [off' = off] ++ q.1, sub :: q.2) else none
        | none => none
      | _ => none
    | _ => none

def oneOf : List Dv → Dv
  | [d] => d
  | ds => .tup ds

/-- what a call leaves: the entries that it was given, and those that it keeps -/
def fin (P : Program) (fn : Func) (ts : List Dv) (H : List Ent) (k : Nat) (keep : List Nat) (hs : List Hint) : Option (List Prop × Dv × List Ent) :=
  match resD P ts H fn.results.toList hs with
  | some (C, ds) =>
    let L := List.range k ++ keep
    match once L, (oneOf (ds.map Dv.arg)).rn (toIds L), (oneOf ds).rn (toIds L), subEnts H L L with
    | true, _, some r, some H' => some (C, r, H')
    | true, some r, none, some H' => some (C, r, H')
    | _, _, _, _ => none
  | none => none

def AllP : List Prop → Prop
  | [] => True
  | p :: r => p ∧ AllP r
end Go.Ev
