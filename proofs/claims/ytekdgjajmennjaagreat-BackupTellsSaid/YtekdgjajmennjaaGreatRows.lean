/-
  No cell of these rows narrows 'for every input' (looked for: loops, veiled, ifaces, maps, wideKeys, modest, calm, conditions, laid).
  DERIVED. THE GIVEN ROWS OF THIS SEAT. 3 by the template 'for every input the law returns true; each argument reads behind the call as it read before'; 0 by the template 'total and deterministic' (their statements: YtekdgjajmennjaaGreatTotals.lean).
  GIVEN WITH THE SEED: the statements are not yours to turn. If you find one false, say at which input.
  Laid BY PROGRAM, IN A SANDBOX (cutbox-rows.mjs): the forced cells as the released guide's own fill.sh prints them over the translation 0ea7b6187cc0755a… (all of the seat's roots in one cut). By AI agents, Wed Nov 11 2026. No macro, syntax, notation, axiom, sorry.
-/
import Derived.Test.YtekdgjajmennjaaGreatChecked
import GoSem.Claim
import GoSem.ClaimJoined
import GoSem.ClaimMapViews
import Derived.JoinedTies
import Derived.KernelRfl
namespace Go.Proofs.YtekdgjajmennjaaGreat
/- THE CELL 'sum', in the pinned program and in every row, IS THE sha256 OF THE DUMP (.gsa) THAT YtekdgjajmennjaaGreatProg.lean LOADS. Nothing in Lean hashes anything: it is a label: what it is worth is what the hold of that sum in a sandbox is worth. -/
noncomputable def Tryz.pinned : Pinned := { name := "ytekdgjajmennjaagreat", sum := "0ea7b6187cc0755a16d0e1602789bd04613d2c5501f4a055e5b7e49ac8f83c7b", checked := Tryz.checked }
namespace Rows
def none {H : Type} : Left H := { results := [], args := [] }

/-- 'corsnedlaw45.BackupTells': WHATEVER THE INPUT: true; the input reads as it did. -/
def backupTellsSpec : ChangeSpec := { name := "backupTells", fn := fun _ => fun
  | [d1, d2, d3, d4, d5, d6] => { results := [.lit (.bool true)], args := [d1, d2, d3, d4, d5, d6] }
  | _ => none }
def backupTellsRow : OpenClaim := { program := "ytekdgjajmennjaagreat", sum := "0ea7b6187cc0755a16d0e1602789bd04613d2c5501f4a055e5b7e49ac8f83c7b", func := "corsned/corsnedlaw45.BackupTells", spec := "backupTells", inPlace := ["internal/bytealg.Compare"], unfollowed := true, recurses := true, named := ["math/bits.divideError", "math/bits.overflowError"], plainKeys := false, apart := false }
def BackupTellsSaid : Prop := backupTellsRow.holds Tryz.pinned (OpenSpec.ofChange backupTellsSpec)

/-- ITS FALSE NEIGHBOUR: 'it returns false'. Refute it at one input. -/
def backupTellsWrong : ChangeSpec := { name := "backupTells", fn := fun _ => fun
  | [d1, d2, d3, d4, d5, d6] => { results := [.lit (.bool false)], args := [d1, d2, d3, d4, d5, d6] }
  | _ => none }
def BackupTellsWrongFalsely : Prop := backupTellsRow.holds Tryz.pinned (OpenSpec.ofChange backupTellsWrong)

/-- 'corsnedlaw45.BackupNever': WHATEVER THE INPUT: true; the input reads as it did. -/
def backupNeverSpec : ChangeSpec := { name := "backupNever", fn := fun _ => fun
  | [d1, d2, d3, d4] => { results := [.lit (.bool true)], args := [d1, d2, d3, d4] }
  | _ => none }
def backupNeverRow : OpenClaim := { program := "ytekdgjajmennjaagreat", sum := "0ea7b6187cc0755a16d0e1602789bd04613d2c5501f4a055e5b7e49ac8f83c7b", func := "corsned/corsnedlaw45.BackupNever", spec := "backupNever", inPlace := ["internal/bytealg.Compare"], unfollowed := true, recurses := true, named := ["math/bits.divideError", "math/bits.overflowError"], plainKeys := false, apart := false }
def BackupNeverSaid : Prop := backupNeverRow.holds Tryz.pinned (OpenSpec.ofChange backupNeverSpec)

/-- ITS FALSE NEIGHBOUR: 'it returns false'. Refute it at one input. -/
def backupNeverWrong : ChangeSpec := { name := "backupNever", fn := fun _ => fun
  | [d1, d2, d3, d4] => { results := [.lit (.bool false)], args := [d1, d2, d3, d4] }
  | _ => none }
def BackupNeverWrongFalsely : Prop := backupNeverRow.holds Tryz.pinned (OpenSpec.ofChange backupNeverWrong)

/-- 'corsnedlaw45.BackupAsks': WHATEVER THE INPUT: true; the input reads as it did. -/
def backupAsksSpec : ChangeSpec := { name := "backupAsks", fn := fun _ => fun
  | [d1, d2, d3] => { results := [.lit (.bool true)], args := [d1, d2, d3] }
  | _ => none }
def backupAsksRow : OpenClaim := { program := "ytekdgjajmennjaagreat", sum := "0ea7b6187cc0755a16d0e1602789bd04613d2c5501f4a055e5b7e49ac8f83c7b", func := "corsned/corsnedlaw45.BackupAsks", spec := "backupAsks", inPlace := ["internal/bytealg.Compare"], unfollowed := true, recurses := true, named := ["math/bits.divideError", "math/bits.overflowError"], plainKeys := false, apart := false }
def BackupAsksSaid : Prop := backupAsksRow.holds Tryz.pinned (OpenSpec.ofChange backupAsksSpec)

/-- ITS FALSE NEIGHBOUR: 'it returns false'. Refute it at one input. -/
def backupAsksWrong : ChangeSpec := { name := "backupAsks", fn := fun _ => fun
  | [d1, d2, d3] => { results := [.lit (.bool false)], args := [d1, d2, d3] }
  | _ => none }
def BackupAsksWrongFalsely : Prop := backupAsksRow.holds Tryz.pinned (OpenSpec.ofChange backupAsksWrong)

/- THE SECOND FORM. 'bulk': how many values and letters a reading holds, each counted each time it is reached (what is shared counts as often as it is met; a slice's spare places count too). A statement '..UptoSaid' is the law's where the arguments, and the package variables that the reading takes, are together of bulk at most 1048576: NARROWER than '..Said'. Prove '..Said' where nothing that the law and all that it calls make is longer than what came in: it says more and counts as full. Else prove '..UptoSaid'. A law counts once. -/
mutual
def uptoBulk {H : Type} : DataW H → Nat
  | .lit (.string bytes) => bytes.length + 1
  | .lit _ => 1
  | .nil => 1
  | .ptr d => uptoBulk d + 1
  | .slice elems spare => uptoBulkAll elems + uptoBulkAll spare + 1
  | .agg parts => uptoBulkAll parts + 1
  | .iface _ d => uptoBulk d + 1
  | .map entries => uptoBulkEntries entries + 1
  | .held _ => 1
def uptoBulkAll {H : Type} : List (DataW H) → Nat
  | [] => 0
  | d :: r => uptoBulk d + uptoBulkAll r
def uptoBulkEntries {H : Type} : List (Lit × DataW H) → Nat
  | [] => 0
  | x :: r => uptoBulkEntry x + uptoBulkEntries r
def uptoBulkEntry {H : Type} : Lit × DataW H → Nat
  | (.string bytes, d) => bytes.length + uptoBulk d + 1
  | (_, d) => uptoBulk d + 1
 end
def uptoSmall : (H : Type) → List (DataW H) → Bool := fun _ ds => decide (uptoBulkAll ds ≤ 1048576)
def OpenSpec.upto (s : _root_.Go.ChangeSpec) : _root_.Go.OpenSpec := { _root_.Go.OpenSpec.ofChange s with cond := some uptoSmall }

/-- 'corsnedlaw45.BackupTells', WHERE WHAT IT READS IS OF BULK AT MOST 1048576: true; the input reads as it did. -/
def backupTellsUptoRow : OpenClaim := { program := "ytekdgjajmennjaagreat", sum := "0ea7b6187cc0755a16d0e1602789bd04613d2c5501f4a055e5b7e49ac8f83c7b", func := "corsned/corsnedlaw45.BackupTells", spec := "backupTells", inPlace := ["internal/bytealg.Compare"], unfollowed := true, recurses := true, named := ["math/bits.divideError", "math/bits.overflowError"], plainKeys := false, apart := false, narrowed := true }
def BackupTellsUptoSaid : Prop := backupTellsUptoRow.holds Tryz.pinned (OpenSpec.upto backupTellsSpec)

/-- 'corsnedlaw45.BackupNever', WHERE WHAT IT READS IS OF BULK AT MOST 1048576: true; the input reads as it did. -/
def backupNeverUptoRow : OpenClaim := { program := "ytekdgjajmennjaagreat", sum := "0ea7b6187cc0755a16d0e1602789bd04613d2c5501f4a055e5b7e49ac8f83c7b", func := "corsned/corsnedlaw45.BackupNever", spec := "backupNever", inPlace := ["internal/bytealg.Compare"], unfollowed := true, recurses := true, named := ["math/bits.divideError", "math/bits.overflowError"], plainKeys := false, apart := false, narrowed := true }
def BackupNeverUptoSaid : Prop := backupNeverUptoRow.holds Tryz.pinned (OpenSpec.upto backupNeverSpec)

/-- 'corsnedlaw45.BackupAsks', WHERE WHAT IT READS IS OF BULK AT MOST 1048576: true; the input reads as it did. -/
def backupAsksUptoRow : OpenClaim := { program := "ytekdgjajmennjaagreat", sum := "0ea7b6187cc0755a16d0e1602789bd04613d2c5501f4a055e5b7e49ac8f83c7b", func := "corsned/corsnedlaw45.BackupAsks", spec := "backupAsks", inPlace := ["internal/bytealg.Compare"], unfollowed := true, recurses := true, named := ["math/bits.divideError", "math/bits.overflowError"], plainKeys := false, apart := false, narrowed := true }
def BackupAsksUptoSaid : Prop := backupAsksUptoRow.holds Tryz.pinned (OpenSpec.upto backupAsksSpec)

end Rows
end Go.Proofs.YtekdgjajmennjaaGreat
