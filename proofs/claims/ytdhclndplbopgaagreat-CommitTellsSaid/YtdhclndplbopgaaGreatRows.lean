/-
  No cell of these rows narrows 'for every input' (looked for: loops, veiled, ifaces, maps, wideKeys, modest, calm, conditions, laid).
  DERIVED. THE GIVEN ROWS OF THIS SEAT. 2 by the template 'for every input the law returns true; each argument reads behind the call as it read before'; 0 by the template 'total and deterministic' (their statements: YtdhclndplbopgaaGreatTotals.lean).
  GIVEN WITH THE SEED: the statements are not yours to turn. If you find one false, say at which input.
  Laid BY PROGRAM, IN A SANDBOX (cutbox-rows.mjs): the forced cells as the released guide's own fill.sh prints them over the translation 4524cb63351bcc30… (all of the seat's roots in one cut). By AI agents, Wed Nov 11 2026. No macro, syntax, notation, axiom, sorry.
-/
import Derived.Test.YtdhclndplbopgaaGreatChecked
import GoSem.Claim
import GoSem.ClaimJoined
import GoSem.ClaimMapViews
import Derived.JoinedTies
import Derived.KernelRfl
namespace Go.Proofs.YtdhclndplbopgaaGreat
/- THE CELL 'sum', in the pinned program and in every row, IS THE sha256 OF THE DUMP (.gsa) THAT YtdhclndplbopgaaGreatProg.lean LOADS. Nothing in Lean hashes anything: it is a label: what it is worth is what the hold of that sum in a sandbox is worth. -/
noncomputable def Tryz.pinned : Pinned := { name := "ytdhclndplbopgaagreat", sum := "4524cb63351bcc30484ba92137d480f0e65826f56b555c1c4049fa09febe1eb7", checked := Tryz.checked }
namespace Rows
def none {H : Type} : Left H := { results := [], args := [] }

/-- 'corsnedlaw21.CommitTells': WHATEVER THE INPUT: true; the input reads as it did. -/
def commitTellsSpec : ChangeSpec := { name := "commitTells", fn := fun _ => fun
  | [d1, d2, d3, d4, d5, d6, d7, d8, d9] => { results := [.lit (.bool true)], args := [d1, d2, d3, d4, d5, d6, d7, d8, d9] }
  | _ => none }
def commitTellsRow : OpenClaim := { program := "ytdhclndplbopgaagreat", sum := "4524cb63351bcc30484ba92137d480f0e65826f56b555c1c4049fa09febe1eb7", func := "corsned/corsnedlaw21.CommitTells", spec := "commitTells", inPlace := ["internal/bytealg.Compare"], unfollowed := true, recurses := true, named := ["math/bits.divideError", "math/bits.overflowError"], plainKeys := false, apart := false }
def CommitTellsSaid : Prop := commitTellsRow.holds Tryz.pinned (OpenSpec.ofChange commitTellsSpec)

/-- ITS FALSE NEIGHBOUR: 'it returns false'. Refute it at one input. -/
def commitTellsWrong : ChangeSpec := { name := "commitTells", fn := fun _ => fun
  | [d1, d2, d3, d4, d5, d6, d7, d8, d9] => { results := [.lit (.bool false)], args := [d1, d2, d3, d4, d5, d6, d7, d8, d9] }
  | _ => none }
def CommitTellsWrongFalsely : Prop := commitTellsRow.holds Tryz.pinned (OpenSpec.ofChange commitTellsWrong)

/-- 'corsnedlaw27.ClosingTells': WHATEVER THE INPUT: true; the input reads as it did. -/
def closingTellsSpec : ChangeSpec := { name := "closingTells", fn := fun _ => fun
  | [d1, d2, d3, d4, d5, d6] => { results := [.lit (.bool true)], args := [d1, d2, d3, d4, d5, d6] }
  | _ => none }
def closingTellsRow : OpenClaim := { program := "ytdhclndplbopgaagreat", sum := "4524cb63351bcc30484ba92137d480f0e65826f56b555c1c4049fa09febe1eb7", func := "corsned/corsnedlaw27.ClosingTells", spec := "closingTells", unfollowed := true, recurses := true, named := ["math/bits.divideError", "math/bits.overflowError"], plainKeys := false, apart := false }
def ClosingTellsSaid : Prop := closingTellsRow.holds Tryz.pinned (OpenSpec.ofChange closingTellsSpec)

/-- ITS FALSE NEIGHBOUR: 'it returns false'. Refute it at one input. -/
def closingTellsWrong : ChangeSpec := { name := "closingTells", fn := fun _ => fun
  | [d1, d2, d3, d4, d5, d6] => { results := [.lit (.bool false)], args := [d1, d2, d3, d4, d5, d6] }
  | _ => none }
def ClosingTellsWrongFalsely : Prop := closingTellsRow.holds Tryz.pinned (OpenSpec.ofChange closingTellsWrong)

/- THE SECOND FORM. 'bulk': how many values and letters a reading holds, each counted each time it is reached (what is shared counts as often as it is met; a slice's spare places count too). A statement '..UptoSaid' is the law's where the arguments, and the package variables that the reading takes, are together of bulk at most 1048576: NARROWER than '..Said'. Prove '..Said' where nothing that the law and all that it calls make is longer than what came in: it says more and counts as full. Else prove '..UptoSaid'. A law counts once. -/
mutual
def uptoBulk {H : Type} : DataW H → Nat
  | .lit (.string bytes) => bytes.length + 1
  | .lit _ => 1
  | .nil => 1
  | .ptr d => uptoBulk d + 1
  | .slice elems spare => uptoBulkAll elems + uptoBulkAll spare + 1
  | .agg parts => uptoBulkAll parts + 1
  | .iface _ d => uptoBulk d + 1
  | .map entries => uptoBulkEntries entries + 1
  | .held _ => 1
def uptoBulkAll {H : Type} : List (DataW H) → Nat
  | [] => 0
  | d :: r => uptoBulk d + uptoBulkAll r
def uptoBulkEntries {H : Type} : List (Lit × DataW H) → Nat
  | [] => 0
  | x :: r => uptoBulkEntry x + uptoBulkEntries r
def uptoBulkEntry {H : Type} : Lit × DataW H → Nat
  | (.string bytes, d) => bytes.length + uptoBulk d + 1
  | (_, d) => uptoBulk d + 1
 end
def uptoSmall : (H : Type) → List (DataW H) → Bool := fun _ ds => decide (uptoBulkAll ds ≤ 1048576)
def OpenSpec.upto (s : _root_.Go.ChangeSpec) : _root_.Go.OpenSpec := { _root_.Go.OpenSpec.ofChange s with cond := some uptoSmall }

/-- 'corsnedlaw21.CommitTells', WHERE WHAT IT READS IS OF BULK AT MOST 1048576: true; the input reads as it did. -/
def commitTellsUptoRow : OpenClaim := { program := "ytdhclndplbopgaagreat", sum := "4524cb63351bcc30484ba92137d480f0e65826f56b555c1c4049fa09febe1eb7", func := "corsned/corsnedlaw21.CommitTells", spec := "commitTells", inPlace := ["internal/bytealg.Compare"], unfollowed := true, recurses := true, named := ["math/bits.divideError", "math/bits.overflowError"], plainKeys := false, apart := false, narrowed := true }
def CommitTellsUptoSaid : Prop := commitTellsUptoRow.holds Tryz.pinned (OpenSpec.upto commitTellsSpec)

/-- 'corsnedlaw27.ClosingTells', WHERE WHAT IT READS IS OF BULK AT MOST 1048576: true; the input reads as it did. -/
def closingTellsUptoRow : OpenClaim := { program := "ytdhclndplbopgaagreat", sum := "4524cb63351bcc30484ba92137d480f0e65826f56b555c1c4049fa09febe1eb7", func := "corsned/corsnedlaw27.ClosingTells", spec := "closingTells", unfollowed := true, recurses := true, named := ["math/bits.divideError", "math/bits.overflowError"], plainKeys := false, apart := false, narrowed := true }
def ClosingTellsUptoSaid : Prop := closingTellsUptoRow.holds Tryz.pinned (OpenSpec.upto closingTellsSpec)

end Rows
end Go.Proofs.YtdhclndplbopgaaGreat
