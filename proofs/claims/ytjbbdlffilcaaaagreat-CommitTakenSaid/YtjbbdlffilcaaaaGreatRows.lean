/-
  No cell of these rows narrows 'for every input' (looked for: loops, veiled, ifaces, maps, wideKeys, modest, calm, conditions, laid).
  DERIVED. THE GIVEN ROWS OF THIS SEAT. 7 by the template 'for every input the law returns true; each argument reads behind the call as it read before'; 0 by the template 'total and deterministic' (their statements: YtjbbdlffilcaaaaGreatTotals.lean).
  GIVEN WITH THE SEED: the statements are not yours to turn. If you find one false, say at which input.
  Laid BY PROGRAM, IN A SANDBOX (cutbox-rows.mjs): the forced cells as the released guide's own fill.sh prints them over the translation 4d30443b684bd24e… (all of the seat's roots in one cut). By AI agents, Wed Nov 11 2026. No macro, syntax, notation, axiom, sorry.
-/
import Derived.Test.YtjbbdlffilcaaaaGreatChecked
import GoSem.Claim
import GoSem.ClaimJoined
import GoSem.ClaimMapViews
import Derived.JoinedTies
import Derived.KernelRfl
namespace Go.Proofs.YtjbbdlffilcaaaaGreat
/- THE CELL 'sum', in the pinned program and in every row, IS THE sha256 OF THE DUMP (.gsa) THAT YtjbbdlffilcaaaaGreatProg.lean LOADS. Nothing in Lean hashes anything: it is a label: what it is worth is what the hold of that sum in a sandbox is worth. -/
noncomputable def Tryz.pinned : Pinned := { name := "ytjbbdlffilcaaaagreat", sum := "4d30443b684bd24e8f08d7ff0c64392593193d31a36517512bfb65f9e9cfbc88", checked := Tryz.checked }
namespace Rows
def none {H : Type} : Left H := { results := [], args := [] }

/-- 'corsnedlaw21.CommitWhole': WHATEVER THE INPUT: true; the input reads as it did. -/
def commitWholeSpec : ChangeSpec := { name := "commitWhole", fn := fun _ => fun
  | [d1, d2] => { results := [.lit (.bool true)], args := [d1, d2] }
  | _ => none }
def commitWholeRow : OpenClaim := { program := "ytjbbdlffilcaaaagreat", sum := "4d30443b684bd24e8f08d7ff0c64392593193d31a36517512bfb65f9e9cfbc88", func := "corsned/corsnedlaw21.CommitWhole", spec := "commitWhole", inPlace := ["internal/bytealg.Compare"], unfollowed := true, recurses := true, named := ["math/bits.divideError", "math/bits.overflowError"], plainKeys := false, apart := false }
def CommitWholeSaid : Prop := commitWholeRow.holds Tryz.pinned (OpenSpec.ofChange commitWholeSpec)

/-- ITS FALSE NEIGHBOUR: 'it returns false'. Refute it at one input. -/
def commitWholeWrong : ChangeSpec := { name := "commitWhole", fn := fun _ => fun
  | [d1, d2] => { results := [.lit (.bool false)], args := [d1, d2] }
  | _ => none }
def CommitWholeWrongFalsely : Prop := commitWholeRow.holds Tryz.pinned (OpenSpec.ofChange commitWholeWrong)

/-- 'corsnedlaw21.CommitBoth': WHATEVER THE INPUT: true; the input reads as it did. -/
def commitBothSpec : ChangeSpec := { name := "commitBoth", fn := fun _ => fun
  | [d] => { results := [.lit (.bool true)], args := [d] }
  | _ => none }
def commitBothRow : OpenClaim := { program := "ytjbbdlffilcaaaagreat", sum := "4d30443b684bd24e8f08d7ff0c64392593193d31a36517512bfb65f9e9cfbc88", func := "corsned/corsnedlaw21.CommitBoth", spec := "commitBoth", inPlace := ["internal/bytealg.Compare"], unfollowed := true, recurses := true, named := ["math/bits.divideError", "math/bits.overflowError"], plainKeys := false, apart := false }
def CommitBothSaid : Prop := commitBothRow.holds Tryz.pinned (OpenSpec.ofChange commitBothSpec)

/-- ITS FALSE NEIGHBOUR: 'it returns false'. Refute it at one input. -/
def commitBothWrong : ChangeSpec := { name := "commitBoth", fn := fun _ => fun
  | [d] => { results := [.lit (.bool false)], args := [d] }
  | _ => none }
def CommitBothWrongFalsely : Prop := commitBothRow.holds Tryz.pinned (OpenSpec.ofChange commitBothWrong)

/-- 'corsnedlaw21.CommitSigned': WHATEVER THE INPUT: true; the input reads as it did. -/
def commitSignedSpec : ChangeSpec := { name := "commitSigned", fn := fun _ => fun
  | [d1, d2, d3] => { results := [.lit (.bool true)], args := [d1, d2, d3] }
  | _ => none }
def commitSignedRow : OpenClaim := { program := "ytjbbdlffilcaaaagreat", sum := "4d30443b684bd24e8f08d7ff0c64392593193d31a36517512bfb65f9e9cfbc88", func := "corsned/corsnedlaw21.CommitSigned", spec := "commitSigned", inPlace := ["internal/bytealg.Compare"], unfollowed := true, recurses := true, named := ["math/bits.divideError", "math/bits.overflowError"], plainKeys := false, apart := false }
def CommitSignedSaid : Prop := commitSignedRow.holds Tryz.pinned (OpenSpec.ofChange commitSignedSpec)

/-- ITS FALSE NEIGHBOUR: 'it returns false'. Refute it at one input. -/
def commitSignedWrong : ChangeSpec := { name := "commitSigned", fn := fun _ => fun
  | [d1, d2, d3] => { results := [.lit (.bool false)], args := [d1, d2, d3] }
  | _ => none }
def CommitSignedWrongFalsely : Prop := commitSignedRow.holds Tryz.pinned (OpenSpec.ofChange commitSignedWrong)

/-- 'corsnedlaw21.CommitRows': WHATEVER THE INPUT: true; the input reads as it did. -/
def commitRowsSpec : ChangeSpec := { name := "commitRows", fn := fun _ => fun
  | [d1, d2, d3] => { results := [.lit (.bool true)], args := [d1, d2, d3] }
  | _ => none }
def commitRowsRow : OpenClaim := { program := "ytjbbdlffilcaaaagreat", sum := "4d30443b684bd24e8f08d7ff0c64392593193d31a36517512bfb65f9e9cfbc88", func := "corsned/corsnedlaw21.CommitRows", spec := "commitRows", inPlace := ["internal/bytealg.Compare"], unfollowed := true, recurses := true, named := ["math/bits.divideError", "math/bits.overflowError"], plainKeys := false, apart := false }
def CommitRowsSaid : Prop := commitRowsRow.holds Tryz.pinned (OpenSpec.ofChange commitRowsSpec)

/-- ITS FALSE NEIGHBOUR: 'it returns false'. Refute it at one input. -/
def commitRowsWrong : ChangeSpec := { name := "commitRows", fn := fun _ => fun
  | [d1, d2, d3] => { results := [.lit (.bool false)], args := [d1, d2, d3] }
  | _ => none }
def CommitRowsWrongFalsely : Prop := commitRowsRow.holds Tryz.pinned (OpenSpec.ofChange commitRowsWrong)

/-- 'corsnedlaw21.CommitConds': WHATEVER THE INPUT: true; the input reads as it did. -/
def commitCondsSpec : ChangeSpec := { name := "commitConds", fn := fun _ => fun
  | [d1, d2, d3, d4] => { results := [.lit (.bool true)], args := [d1, d2, d3, d4] }
  | _ => none }
def commitCondsRow : OpenClaim := { program := "ytjbbdlffilcaaaagreat", sum := "4d30443b684bd24e8f08d7ff0c64392593193d31a36517512bfb65f9e9cfbc88", func := "corsned/corsnedlaw21.CommitConds", spec := "commitConds", inPlace := ["internal/bytealg.Compare"], unfollowed := true, recurses := true, named := ["math/bits.divideError", "math/bits.overflowError"], plainKeys := false, apart := false }
def CommitCondsSaid : Prop := commitCondsRow.holds Tryz.pinned (OpenSpec.ofChange commitCondsSpec)

/-- ITS FALSE NEIGHBOUR: 'it returns false'. Refute it at one input. -/
def commitCondsWrong : ChangeSpec := { name := "commitConds", fn := fun _ => fun
  | [d1, d2, d3, d4] => { results := [.lit (.bool false)], args := [d1, d2, d3, d4] }
  | _ => none }
def CommitCondsWrongFalsely : Prop := commitCondsRow.holds Tryz.pinned (OpenSpec.ofChange commitCondsWrong)

/-- 'corsnedlaw21.CommitTaken': WHATEVER THE INPUT: true; the input reads as it did. -/
def commitTakenSpec : ChangeSpec := { name := "commitTaken", fn := fun _ => fun
  | [d1, d2, d3, d4] => { results := [.lit (.bool true)], args := [d1, d2, d3, d4] }
  | _ => none }
def commitTakenRow : OpenClaim := { program := "ytjbbdlffilcaaaagreat", sum := "4d30443b684bd24e8f08d7ff0c64392593193d31a36517512bfb65f9e9cfbc88", func := "corsned/corsnedlaw21.CommitTaken", spec := "commitTaken", inPlace := ["internal/bytealg.Compare"], unfollowed := true, recurses := true, named := ["math/bits.divideError", "math/bits.overflowError"], plainKeys := false, apart := false }
def CommitTakenSaid : Prop := commitTakenRow.holds Tryz.pinned (OpenSpec.ofChange commitTakenSpec)

/-- ITS FALSE NEIGHBOUR: 'it returns false'. Refute it at one input. -/
def commitTakenWrong : ChangeSpec := { name := "commitTaken", fn := fun _ => fun
  | [d1, d2, d3, d4] => { results := [.lit (.bool false)], args := [d1, d2, d3, d4] }
  | _ => none }
def CommitTakenWrongFalsely : Prop := commitTakenRow.holds Tryz.pinned (OpenSpec.ofChange commitTakenWrong)

/-- 'corsnedlaw21.CommitTells': WHATEVER THE INPUT: true; the input reads as it did. -/
def commitTellsSpec : ChangeSpec := { name := "commitTells", fn := fun _ => fun
  | [d1, d2, d3, d4, d5, d6, d7, d8, d9] => { results := [.lit (.bool true)], args := [d1, d2, d3, d4, d5, d6, d7, d8, d9] }
  | _ => none }
def commitTellsRow : OpenClaim := { program := "ytjbbdlffilcaaaagreat", sum := "4d30443b684bd24e8f08d7ff0c64392593193d31a36517512bfb65f9e9cfbc88", func := "corsned/corsnedlaw21.CommitTells", spec := "commitTells", inPlace := ["internal/bytealg.Compare"], unfollowed := true, recurses := true, named := ["math/bits.divideError", "math/bits.overflowError"], plainKeys := false, apart := false }
def CommitTellsSaid : Prop := commitTellsRow.holds Tryz.pinned (OpenSpec.ofChange commitTellsSpec)

/-- ITS FALSE NEIGHBOUR: 'it returns false'. Refute it at one input. -/
def commitTellsWrong : ChangeSpec := { name := "commitTells", fn := fun _ => fun
  | [d1, d2, d3, d4, d5, d6, d7, d8, d9] => { results := [.lit (.bool false)], args := [d1, d2, d3, d4, d5, d6, d7, d8, d9] }
  | _ => none }
def CommitTellsWrongFalsely : Prop := commitTellsRow.holds Tryz.pinned (OpenSpec.ofChange commitTellsWrong)

/- THE SECOND FORM. 'bulk': how many values and letters a reading holds, each counted each time it is reached (what is shared counts as often as it is met; a slice's spare places count too). A statement '..UptoSaid' is the law's where the arguments, and the package variables that the reading takes, are together of bulk at most 1048576: NARROWER than '..Said'. Prove '..Said' where nothing that the law and all that it calls make is longer than what came in: it says more and counts as full. Else prove '..UptoSaid'. A law counts once. -/
mutual
def uptoBulk {H : Type} : DataW H → Nat
  | .lit (.string bytes) => bytes.length + 1
  | .lit _ => 1
  | .nil => 1
  | .ptr d => uptoBulk d + 1
  | .slice elems spare => uptoBulkAll elems + uptoBulkAll spare + 1
  | .agg parts => uptoBulkAll parts + 1
  | .iface _ d => uptoBulk d + 1
  | .map entries => uptoBulkEntries entries + 1
  | .held _ => 1
def uptoBulkAll {H : Type} : List (DataW H) → Nat
  | [] => 0
  | d :: r => uptoBulk d + uptoBulkAll r
def uptoBulkEntries {H : Type} : List (Lit × DataW H) → Nat
  | [] => 0
  | x :: r => uptoBulkEntry x + uptoBulkEntries r
def uptoBulkEntry {H : Type} : Lit × DataW H → Nat
  | (.string bytes, d) => bytes.length + uptoBulk d + 1
  | (_, d) => uptoBulk d + 1
 end
def uptoSmall : (H : Type) → List (DataW H) → Bool := fun _ ds => decide (uptoBulkAll ds ≤ 1048576)
def OpenSpec.upto (s : _root_.Go.ChangeSpec) : _root_.Go.OpenSpec := { _root_.Go.OpenSpec.ofChange s with cond := some uptoSmall }

/-- 'corsnedlaw21.CommitWhole', WHERE WHAT IT READS IS OF BULK AT MOST 1048576: true; the input reads as it did. -/
def commitWholeUptoRow : OpenClaim := { program := "ytjbbdlffilcaaaagreat", sum := "4d30443b684bd24e8f08d7ff0c64392593193d31a36517512bfb65f9e9cfbc88", func := "corsned/corsnedlaw21.CommitWhole", spec := "commitWhole", inPlace := ["internal/bytealg.Compare"], unfollowed := true, recurses := true, named := ["math/bits.divideError", "math/bits.overflowError"], plainKeys := false, apart := false, narrowed := true }
def CommitWholeUptoSaid : Prop := commitWholeUptoRow.holds Tryz.pinned (OpenSpec.upto commitWholeSpec)

/-- 'corsnedlaw21.CommitBoth', WHERE WHAT IT READS IS OF BULK AT MOST 1048576: true; the input reads as it did. -/
def commitBothUptoRow : OpenClaim := { program := "ytjbbdlffilcaaaagreat", sum := "4d30443b684bd24e8f08d7ff0c64392593193d31a36517512bfb65f9e9cfbc88", func := "corsned/corsnedlaw21.CommitBoth", spec := "commitBoth", inPlace := ["internal/bytealg.Compare"], unfollowed := true, recurses := true, named := ["math/bits.divideError", "math/bits.overflowError"], plainKeys := false, apart := false, narrowed := true }
def CommitBothUptoSaid : Prop := commitBothUptoRow.holds Tryz.pinned (OpenSpec.upto commitBothSpec)

/-- 'corsnedlaw21.CommitSigned', WHERE WHAT IT READS IS OF BULK AT MOST 1048576: true; the input reads as it did. -/
def commitSignedUptoRow : OpenClaim := { program := "ytjbbdlffilcaaaagreat", sum := "4d30443b684bd24e8f08d7ff0c64392593193d31a36517512bfb65f9e9cfbc88", func := "corsned/corsnedlaw21.CommitSigned", spec := "commitSigned", inPlace := ["internal/bytealg.Compare"], unfollowed := true, recurses := true, named := ["math/bits.divideError", "math/bits.overflowError"], plainKeys := false, apart := false, narrowed := true }
def CommitSignedUptoSaid : Prop := commitSignedUptoRow.holds Tryz.pinned (OpenSpec.upto commitSignedSpec)

/-- 'corsnedlaw21.CommitRows', WHERE WHAT IT READS IS OF BULK AT MOST 1048576: true; the input reads as it did. -/
def commitRowsUptoRow : OpenClaim := { program := "ytjbbdlffilcaaaagreat", sum := "4d30443b684bd24e8f08d7ff0c64392593193d31a36517512bfb65f9e9cfbc88", func := "corsned/corsnedlaw21.CommitRows", spec := "commitRows", inPlace := ["internal/bytealg.Compare"], unfollowed := true, recurses := true, named := ["math/bits.divideError", "math/bits.overflowError"], plainKeys := false, apart := false, narrowed := true }
def CommitRowsUptoSaid : Prop := commitRowsUptoRow.holds Tryz.pinned (OpenSpec.upto commitRowsSpec)

/-- 'corsnedlaw21.CommitConds', WHERE WHAT IT READS IS OF BULK AT MOST 1048576: true; the input reads as it did. -/
def commitCondsUptoRow : OpenClaim := { program := "ytjbbdlffilcaaaagreat", sum := "4d30443b684bd24e8f08d7ff0c64392593193d31a36517512bfb65f9e9cfbc88", func := "corsned/corsnedlaw21.CommitConds", spec := "commitConds", inPlace := ["internal/bytealg.Compare"], unfollowed := true, recurses := true, named := ["math/bits.divideError", "math/bits.overflowError"], plainKeys := false, apart := false, narrowed := true }
def CommitCondsUptoSaid : Prop := commitCondsUptoRow.holds Tryz.pinned (OpenSpec.upto commitCondsSpec)

/-- 'corsnedlaw21.CommitTaken', WHERE WHAT IT READS IS OF BULK AT MOST 1048576: true; the input reads as it did. -/
def commitTakenUptoRow : OpenClaim := { program := "ytjbbdlffilcaaaagreat", sum := "4d30443b684bd24e8f08d7ff0c64392593193d31a36517512bfb65f9e9cfbc88", func := "corsned/corsnedlaw21.CommitTaken", spec := "commitTaken", inPlace := ["internal/bytealg.Compare"], unfollowed := true, recurses := true, named := ["math/bits.divideError", "math/bits.overflowError"], plainKeys := false, apart := false, narrowed := true }
def CommitTakenUptoSaid : Prop := commitTakenUptoRow.holds Tryz.pinned (OpenSpec.upto commitTakenSpec)

/-- 'corsnedlaw21.CommitTells', WHERE WHAT IT READS IS OF BULK AT MOST 1048576: true; the input reads as it did. -/
def commitTellsUptoRow : OpenClaim := { program := "ytjbbdlffilcaaaagreat", sum := "4d30443b684bd24e8f08d7ff0c64392593193d31a36517512bfb65f9e9cfbc88", func := "corsned/corsnedlaw21.CommitTells", spec := "commitTells", inPlace := ["internal/bytealg.Compare"], unfollowed := true, recurses := true, named := ["math/bits.divideError", "math/bits.overflowError"], plainKeys := false, apart := false, narrowed := true }
def CommitTellsUptoSaid : Prop := commitTellsUptoRow.holds Tryz.pinned (OpenSpec.upto commitTellsSpec)

end Rows
end Go.Proofs.YtjbbdlffilcaaaaGreat
