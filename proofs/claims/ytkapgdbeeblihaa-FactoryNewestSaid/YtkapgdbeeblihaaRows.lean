/-
  No cell of these rows narrows 'for every input' (looked for: loops, veiled, ifaces, maps, wideKeys, modest, calm, conditions, laid).
  DERIVED. THE GIVEN ROWS OF THIS SEAT. 2 by the template 'for every input the law returns true; each argument reads behind the call as it read before'; 0 by the template 'total and deterministic' (their statements: YtkapgdbeeblihaaTotals.lean).
  GIVEN WITH THE SEED: the statements are not yours to turn. If you find one false, say at which input.
  Laid BY PROGRAM, IN A SANDBOX (cutbox-rows.mjs): the forced cells as the released guide's own fill.sh prints them over the translation 953c9724f165e499… (all of the seat's roots in one cut). By AI agents, Wed Nov 11 2026. No macro, syntax, notation, axiom, sorry.
-/
import Derived.Test.YtkapgdbeeblihaaChecked
import GoSem.Claim
import GoSem.ClaimJoined
import GoSem.ClaimMapViews
import Derived.JoinedTies
import Derived.KernelRfl
namespace Go.Proofs.Ytkapgdbeeblihaa
/- THE CELL 'sum', in the pinned program and in every row, IS THE sha256 OF THE DUMP (.gsa) THAT YtkapgdbeeblihaaProg.lean LOADS. Nothing in Lean hashes anything: it is a label: what it is worth is what the hold of that sum in a sandbox is worth. -/
noncomputable def Try.pinned : Pinned := { name := "ytkapgdbeeblihaa", sum := "953c9724f165e4995292b61b9cd77b54cf5a80f73250c6fd0ff9d82aa0ad8813", checked := Try.checked }
namespace Rows
def none {H : Type} : Left H := { results := [], args := [] }

/-- 'corsnedlaw29.FactoryNewest': WHATEVER THE INPUT: true; the input reads as it did. -/
def factoryNewestSpec : ChangeSpec := { name := "factoryNewest", fn := fun _ => fun
  | [d1, d2, d3, d4, d5, d6, d7] => { results := [.lit (.bool true)], args := [d1, d2, d3, d4, d5, d6, d7] }
  | _ => none }
def factoryNewestRow : OpenClaim := { program := "ytkapgdbeeblihaa", sum := "953c9724f165e4995292b61b9cd77b54cf5a80f73250c6fd0ff9d82aa0ad8813", func := "corsned/corsnedlaw29.FactoryNewest", spec := "factoryNewest", unfollowed := true, recurses := true, named := ["math/bits.divideError", "math/bits.overflowError"], plainKeys := false, apart := false }
def FactoryNewestSaid : Prop := factoryNewestRow.holds Try.pinned (OpenSpec.ofChange factoryNewestSpec)

/-- ITS FALSE NEIGHBOUR: 'it returns false'. Refute it at one input. -/
def factoryNewestWrong : ChangeSpec := { name := "factoryNewest", fn := fun _ => fun
  | [d1, d2, d3, d4, d5, d6, d7] => { results := [.lit (.bool false)], args := [d1, d2, d3, d4, d5, d6, d7] }
  | _ => none }
def FactoryNewestWrongFalsely : Prop := factoryNewestRow.holds Try.pinned (OpenSpec.ofChange factoryNewestWrong)

/-- 'corsnedlaw29.FactorySpoiled': WHATEVER THE INPUT: true; the input reads as it did. -/
def factorySpoiledSpec : ChangeSpec := { name := "factorySpoiled", fn := fun _ => fun
  | [d1, d2, d3, d4, d5, d6] => { results := [.lit (.bool true)], args := [d1, d2, d3, d4, d5, d6] }
  | _ => none }
def factorySpoiledRow : OpenClaim := { program := "ytkapgdbeeblihaa", sum := "953c9724f165e4995292b61b9cd77b54cf5a80f73250c6fd0ff9d82aa0ad8813", func := "corsned/corsnedlaw29.FactorySpoiled", spec := "factorySpoiled", unfollowed := true, recurses := true, named := ["math/bits.divideError", "math/bits.overflowError"], plainKeys := false, apart := false }
def FactorySpoiledSaid : Prop := factorySpoiledRow.holds Try.pinned (OpenSpec.ofChange factorySpoiledSpec)

/-- ITS FALSE NEIGHBOUR: 'it returns false'. Refute it at one input. -/
def factorySpoiledWrong : ChangeSpec := { name := "factorySpoiled", fn := fun _ => fun
  | [d1, d2, d3, d4, d5, d6] => { results := [.lit (.bool false)], args := [d1, d2, d3, d4, d5, d6] }
  | _ => none }
def FactorySpoiledWrongFalsely : Prop := factorySpoiledRow.holds Try.pinned (OpenSpec.ofChange factorySpoiledWrong)

/- THE SECOND FORM. 'bulk': how many values and letters a reading holds, each counted each time it is reached (what is shared counts as often as it is met; a slice's spare places count too). A statement '..UptoSaid' is the law's where the arguments, and the package variables that the reading takes, are together of bulk at most 1048576: NARROWER than '..Said'. Prove '..Said' where nothing that the law and all that it calls make is longer than what came in: it says more and counts as full. Else prove '..UptoSaid'. A law counts once. -/
mutual
def uptoBulk {H : Type} : DataW H → Nat
  | .lit (.string bytes) => bytes.length + 1
  | .lit _ => 1
  | .nil => 1
  | .ptr d => uptoBulk d + 1
  | .slice elems spare => uptoBulkAll elems + uptoBulkAll spare + 1
  | .agg parts => uptoBulkAll parts + 1
  | .iface _ d => uptoBulk d + 1
  | .map entries => uptoBulkEntries entries + 1
  | .held _ => 1
def uptoBulkAll {H : Type} : List (DataW H) → Nat
  | [] => 0
  | d :: r => uptoBulk d + uptoBulkAll r
def uptoBulkEntries {H : Type} : List (Lit × DataW H) → Nat
  | [] => 0
  | x :: r => uptoBulkEntry x + uptoBulkEntries r
def uptoBulkEntry {H : Type} : Lit × DataW H → Nat
  | (.string bytes, d) => bytes.length + uptoBulk d + 1
  | (_, d) => uptoBulk d + 1
 end
def uptoSmall : (H : Type) → List (DataW H) → Bool := fun _ ds => decide (uptoBulkAll ds ≤ 1048576)
def OpenSpec.upto (s : _root_.Go.ChangeSpec) : _root_.Go.OpenSpec := { _root_.Go.OpenSpec.ofChange s with cond := some uptoSmall }

/-- 'corsnedlaw29.FactoryNewest', WHERE WHAT IT READS IS OF BULK AT MOST 1048576: true; the input reads as it did. -/
def factoryNewestUptoRow : OpenClaim := { program := "ytkapgdbeeblihaa", sum := "953c9724f165e4995292b61b9cd77b54cf5a80f73250c6fd0ff9d82aa0ad8813", func := "corsned/corsnedlaw29.FactoryNewest", spec := "factoryNewest", unfollowed := true, recurses := true, named := ["math/bits.divideError", "math/bits.overflowError"], plainKeys := false, apart := false, narrowed := true }
def FactoryNewestUptoSaid : Prop := factoryNewestUptoRow.holds Try.pinned (OpenSpec.upto factoryNewestSpec)

/-- 'corsnedlaw29.FactorySpoiled', WHERE WHAT IT READS IS OF BULK AT MOST 1048576: true; the input reads as it did. -/
def factorySpoiledUptoRow : OpenClaim := { program := "ytkapgdbeeblihaa", sum := "953c9724f165e4995292b61b9cd77b54cf5a80f73250c6fd0ff9d82aa0ad8813", func := "corsned/corsnedlaw29.FactorySpoiled", spec := "factorySpoiled", unfollowed := true, recurses := true, named := ["math/bits.divideError", "math/bits.overflowError"], plainKeys := false, apart := false, narrowed := true }
def FactorySpoiledUptoSaid : Prop := factorySpoiledUptoRow.holds Try.pinned (OpenSpec.upto factorySpoiledSpec)

end Rows
end Go.Proofs.Ytkapgdbeeblihaa
