/-
  No cell of these rows narrows 'for every input' (looked for: loops, veiled, ifaces, maps, wideKeys, modest, calm, conditions, laid).
  DERIVED. THE GIVEN ROWS OF THIS SEAT. 4 by the template 'for every input the law returns true; each argument reads behind the call as it read before'; 0 by the template 'total and deterministic' (their statements: YtmkgbalfkhaflaaGreatTotals.lean).
  GIVEN WITH THE SEED: the statements are not yours to turn. If you find one false, say at which input.
  Laid BY PROGRAM, IN A SANDBOX (cutbox-rows.mjs): the forced cells as the released guide's own fill.sh prints them over the translation d1e2427e3a3b87a9… (all of the seat's roots in one cut). By AI agents, Wed Nov 11 2026. No macro, syntax, notation, axiom, sorry.
-/
import Derived.Test.YtmkgbalfkhaflaaGreatChecked
import GoSem.Claim
import GoSem.ClaimJoined
import GoSem.ClaimMapViews
import Derived.JoinedTies
import Derived.KernelRfl
namespace Go.Proofs.YtmkgbalfkhaflaaGreat
/- THE CELL 'sum', in the pinned program and in every row, IS THE sha256 OF THE DUMP (.gsa) THAT YtmkgbalfkhaflaaGreatProg.lean LOADS. Nothing in Lean hashes anything: it is a label: what it is worth is what the hold of that sum in a sandbox is worth. -/
noncomputable def Tryz.pinned : Pinned := { name := "ytmkgbalfkhaflaagreat", sum := "d1e2427e3a3b87a960d1a07127dae1691d8f872e292b58ea0cad05f4b99cc32c", checked := Tryz.checked }
namespace Rows
def none {H : Type} : Left H := { results := [], args := [] }

/-- 'corsnedlaw27.ClosingErrs': WHATEVER THE INPUT: true; the input reads as it did. -/
def closingErrsSpec : ChangeSpec := { name := "closingErrs", fn := fun _ => fun
  | [d1, d2, d3, d4] => { results := [.lit (.bool true)], args := [d1, d2, d3, d4] }
  | _ => none }
def closingErrsRow : OpenClaim := { program := "ytmkgbalfkhaflaagreat", sum := "d1e2427e3a3b87a960d1a07127dae1691d8f872e292b58ea0cad05f4b99cc32c", func := "corsned/corsnedlaw27.ClosingErrs", spec := "closingErrs", unfollowed := true, recurses := true, named := ["math/bits.divideError", "math/bits.overflowError"], plainKeys := false, apart := false }
def ClosingErrsSaid : Prop := closingErrsRow.holds Tryz.pinned (OpenSpec.ofChange closingErrsSpec)

/-- ITS FALSE NEIGHBOUR: 'it returns false'. Refute it at one input. -/
def closingErrsWrong : ChangeSpec := { name := "closingErrs", fn := fun _ => fun
  | [d1, d2, d3, d4] => { results := [.lit (.bool false)], args := [d1, d2, d3, d4] }
  | _ => none }
def ClosingErrsWrongFalsely : Prop := closingErrsRow.holds Tryz.pinned (OpenSpec.ofChange closingErrsWrong)

/-- 'corsnedlaw27.ClosingSafe': WHATEVER THE INPUT: true; the input reads as it did. -/
def closingSafeSpec : ChangeSpec := { name := "closingSafe", fn := fun _ => fun
  | [d1, d2, d3, d4] => { results := [.lit (.bool true)], args := [d1, d2, d3, d4] }
  | _ => none }
def closingSafeRow : OpenClaim := { program := "ytmkgbalfkhaflaagreat", sum := "d1e2427e3a3b87a960d1a07127dae1691d8f872e292b58ea0cad05f4b99cc32c", func := "corsned/corsnedlaw27.ClosingSafe", spec := "closingSafe", unfollowed := true, recurses := true, named := ["math/bits.divideError", "math/bits.overflowError"], plainKeys := false, apart := false }
def ClosingSafeSaid : Prop := closingSafeRow.holds Tryz.pinned (OpenSpec.ofChange closingSafeSpec)

/-- ITS FALSE NEIGHBOUR: 'it returns false'. Refute it at one input. -/
def closingSafeWrong : ChangeSpec := { name := "closingSafe", fn := fun _ => fun
  | [d1, d2, d3, d4] => { results := [.lit (.bool false)], args := [d1, d2, d3, d4] }
  | _ => none }
def ClosingSafeWrongFalsely : Prop := closingSafeRow.holds Tryz.pinned (OpenSpec.ofChange closingSafeWrong)

/-- 'corsnedlaw27.ClosingWhole': WHATEVER THE INPUT: true; the input reads as it did. -/
def closingWholeSpec : ChangeSpec := { name := "closingWhole", fn := fun _ => fun
  | [d1, d2, d3] => { results := [.lit (.bool true)], args := [d1, d2, d3] }
  | _ => none }
def closingWholeRow : OpenClaim := { program := "ytmkgbalfkhaflaagreat", sum := "d1e2427e3a3b87a960d1a07127dae1691d8f872e292b58ea0cad05f4b99cc32c", func := "corsned/corsnedlaw27.ClosingWhole", spec := "closingWhole", unfollowed := true, recurses := true, named := ["math/bits.divideError", "math/bits.overflowError"], plainKeys := false, apart := false }
def ClosingWholeSaid : Prop := closingWholeRow.holds Tryz.pinned (OpenSpec.ofChange closingWholeSpec)

/-- ITS FALSE NEIGHBOUR: 'it returns false'. Refute it at one input. -/
def closingWholeWrong : ChangeSpec := { name := "closingWhole", fn := fun _ => fun
  | [d1, d2, d3] => { results := [.lit (.bool false)], args := [d1, d2, d3] }
  | _ => none }
def ClosingWholeWrongFalsely : Prop := closingWholeRow.holds Tryz.pinned (OpenSpec.ofChange closingWholeWrong)

/-- 'corsnedlaw27.ClosingMeets': WHATEVER THE INPUT: true; the input reads as it did. -/
def closingMeetsSpec : ChangeSpec := { name := "closingMeets", fn := fun _ => fun
  | [d1, d2, d3, d4] => { results := [.lit (.bool true)], args := [d1, d2, d3, d4] }
  | _ => none }
def closingMeetsRow : OpenClaim := { program := "ytmkgbalfkhaflaagreat", sum := "d1e2427e3a3b87a960d1a07127dae1691d8f872e292b58ea0cad05f4b99cc32c", func := "corsned/corsnedlaw27.ClosingMeets", spec := "closingMeets", unfollowed := true, recurses := true, named := ["math/bits.divideError", "math/bits.overflowError"], plainKeys := false, apart := false }
def ClosingMeetsSaid : Prop := closingMeetsRow.holds Tryz.pinned (OpenSpec.ofChange closingMeetsSpec)

/-- ITS FALSE NEIGHBOUR: 'it returns false'. Refute it at one input. -/
def closingMeetsWrong : ChangeSpec := { name := "closingMeets", fn := fun _ => fun
  | [d1, d2, d3, d4] => { results := [.lit (.bool false)], args := [d1, d2, d3, d4] }
  | _ => none }
def ClosingMeetsWrongFalsely : Prop := closingMeetsRow.holds Tryz.pinned (OpenSpec.ofChange closingMeetsWrong)

/- THE SECOND FORM. 'bulk': how many values and letters a reading holds, each counted each time it is reached (what is shared counts as often as it is met; a slice's spare places count too). A statement '..UptoSaid' is the law's where the arguments, and the package variables that the reading takes, are together of bulk at most 1048576: NARROWER than '..Said'. Prove '..Said' where nothing that the law and all that it calls make is longer than what came in: it says more and counts as full. Else prove '..UptoSaid'. A law counts once. -/
mutual
def uptoBulk {H : Type} : DataW H → Nat
  | .lit (.string bytes) => bytes.length + 1
  | .lit _ => 1
  | .nil => 1
  | .ptr d => uptoBulk d + 1
  | .slice elems spare => uptoBulkAll elems + uptoBulkAll spare + 1
  | .agg parts => uptoBulkAll parts + 1
  | .iface _ d => uptoBulk d + 1
  | .map entries => uptoBulkEntries entries + 1
  | .held _ => 1
def uptoBulkAll {H : Type} : List (DataW H) → Nat
  | [] => 0
  | d :: r => uptoBulk d + uptoBulkAll r
def uptoBulkEntries {H : Type} : List (Lit × DataW H) → Nat
  | [] => 0
  | x :: r => uptoBulkEntry x + uptoBulkEntries r
def uptoBulkEntry {H : Type} : Lit × DataW H → Nat
  | (.string bytes, d) => bytes.length + uptoBulk d + 1
  | (_, d) => uptoBulk d + 1
 end
def uptoSmall : (H : Type) → List (DataW H) → Bool := fun _ ds => decide (uptoBulkAll ds ≤ 1048576)
def OpenSpec.upto (s : _root_.Go.ChangeSpec) : _root_.Go.OpenSpec := { _root_.Go.OpenSpec.ofChange s with cond := some uptoSmall }

/-- 'corsnedlaw27.ClosingErrs', WHERE WHAT IT READS IS OF BULK AT MOST 1048576: true; the input reads as it did. -/
def closingErrsUptoRow : OpenClaim := { program := "ytmkgbalfkhaflaagreat", sum := "d1e2427e3a3b87a960d1a07127dae1691d8f872e292b58ea0cad05f4b99cc32c", func := "corsned/corsnedlaw27.ClosingErrs", spec := "closingErrs", unfollowed := true, recurses := true, named := ["math/bits.divideError", "math/bits.overflowError"], plainKeys := false, apart := false, narrowed := true }
def ClosingErrsUptoSaid : Prop := closingErrsUptoRow.holds Tryz.pinned (OpenSpec.upto closingErrsSpec)

/-- 'corsnedlaw27.ClosingSafe', WHERE WHAT IT READS IS OF BULK AT MOST 1048576: true; the input reads as it did. -/
def closingSafeUptoRow : OpenClaim := { program := "ytmkgbalfkhaflaagreat", sum := "d1e2427e3a3b87a960d1a07127dae1691d8f872e292b58ea0cad05f4b99cc32c", func := "corsned/corsnedlaw27.ClosingSafe", spec := "closingSafe", unfollowed := true, recurses := true, named := ["math/bits.divideError", "math/bits.overflowError"], plainKeys := false, apart := false, narrowed := true }
def ClosingSafeUptoSaid : Prop := closingSafeUptoRow.holds Tryz.pinned (OpenSpec.upto closingSafeSpec)

/-- 'corsnedlaw27.ClosingWhole', WHERE WHAT IT READS IS OF BULK AT MOST 1048576: true; the input reads as it did. -/
def closingWholeUptoRow : OpenClaim := { program := "ytmkgbalfkhaflaagreat", sum := "d1e2427e3a3b87a960d1a07127dae1691d8f872e292b58ea0cad05f4b99cc32c", func := "corsned/corsnedlaw27.ClosingWhole", spec := "closingWhole", unfollowed := true, recurses := true, named := ["math/bits.divideError", "math/bits.overflowError"], plainKeys := false, apart := false, narrowed := true }
def ClosingWholeUptoSaid : Prop := closingWholeUptoRow.holds Tryz.pinned (OpenSpec.upto closingWholeSpec)

/-- 'corsnedlaw27.ClosingMeets', WHERE WHAT IT READS IS OF BULK AT MOST 1048576: true; the input reads as it did. -/
def closingMeetsUptoRow : OpenClaim := { program := "ytmkgbalfkhaflaagreat", sum := "d1e2427e3a3b87a960d1a07127dae1691d8f872e292b58ea0cad05f4b99cc32c", func := "corsned/corsnedlaw27.ClosingMeets", spec := "closingMeets", unfollowed := true, recurses := true, named := ["math/bits.divideError", "math/bits.overflowError"], plainKeys := false, apart := false, narrowed := true }
def ClosingMeetsUptoSaid : Prop := closingMeetsUptoRow.holds Tryz.pinned (OpenSpec.upto closingMeetsSpec)

end Rows
end Go.Proofs.YtmkgbalfkhaflaaGreat
