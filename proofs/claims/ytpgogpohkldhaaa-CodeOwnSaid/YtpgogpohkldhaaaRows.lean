/-
  No cell of these rows narrows 'for every input' (looked for: loops, veiled, ifaces, maps, wideKeys, modest, calm, conditions, laid).
  DERIVED. THE GIVEN ROWS OF THIS SEAT. 5 by the template 'for every input the law returns true; each argument reads behind the call as it read before'; 0 by the template 'total and deterministic' (their statements: YtpgogpohkldhaaaTotals.lean).
  GIVEN WITH THE SEED: the statements are not yours to turn. If you find one false, say at which input.
  Laid BY PROGRAM, IN A SANDBOX (cutbox-rows.mjs): the forced cells as the released guide's own fill.sh prints them over the translation 05028ecefd288e64… (all of the seat's roots in one cut). By AI agents, Wed Nov 11 2026. No macro, syntax, notation, axiom, sorry.
-/
import Derived.Test.YtpgogpohkldhaaaChecked
import GoSem.Claim
import GoSem.ClaimJoined
import GoSem.ClaimMapViews
import Derived.JoinedTies
import Derived.KernelRfl
namespace Go.Proofs.Ytpgogpohkldhaaa
/- THE CELL 'sum', in the pinned program and in every row, IS THE sha256 OF THE DUMP (.gsa) THAT YtpgogpohkldhaaaProg.lean LOADS. Nothing in Lean hashes anything: it is a label: what it is worth is what the hold of that sum in a sandbox is worth. -/
noncomputable def Try.pinned : Pinned := { name := "ytpgogpohkldhaaa", sum := "05028ecefd288e6459f7b3abd6e3c8e21ecbf8a9c6f910aeaa0e6947df3eb994", checked := Try.checked }
namespace Rows
def none {H : Type} : Left H := { results := [], args := [] }

/-- 'corsnedlaw08.CodeOwn': WHATEVER THE INPUT: true; the input reads as it did. -/
def codeOwnSpec : ChangeSpec := { name := "codeOwn", fn := fun _ => fun
  | [d] => { results := [.lit (.bool true)], args := [d] }
  | _ => none }
def codeOwnRow : OpenClaim := { program := "ytpgogpohkldhaaa", sum := "05028ecefd288e6459f7b3abd6e3c8e21ecbf8a9c6f910aeaa0e6947df3eb994", func := "corsned/corsnedlaw08.CodeOwn", spec := "codeOwn", unfollowed := true, recurses := true, apart := false }
def CodeOwnSaid : Prop := codeOwnRow.holds Try.pinned (OpenSpec.ofChange codeOwnSpec)

/-- ITS FALSE NEIGHBOUR: 'it returns false'. Refute it at one input. -/
def codeOwnWrong : ChangeSpec := { name := "codeOwn", fn := fun _ => fun
  | [d] => { results := [.lit (.bool false)], args := [d] }
  | _ => none }
def CodeOwnWrongFalsely : Prop := codeOwnRow.holds Try.pinned (OpenSpec.ofChange codeOwnWrong)

/-- 'corsnedlaw08.CodeTells': WHATEVER THE INPUT: true; the input reads as it did. -/
def codeTellsSpec : ChangeSpec := { name := "codeTells", fn := fun _ => fun
  | [d1, d2] => { results := [.lit (.bool true)], args := [d1, d2] }
  | _ => none }
def codeTellsRow : OpenClaim := { program := "ytpgogpohkldhaaa", sum := "05028ecefd288e6459f7b3abd6e3c8e21ecbf8a9c6f910aeaa0e6947df3eb994", func := "corsned/corsnedlaw08.CodeTells", spec := "codeTells", unfollowed := true, recurses := true, apart := false }
def CodeTellsSaid : Prop := codeTellsRow.holds Try.pinned (OpenSpec.ofChange codeTellsSpec)

/-- ITS FALSE NEIGHBOUR: 'it returns false'. Refute it at one input. -/
def codeTellsWrong : ChangeSpec := { name := "codeTells", fn := fun _ => fun
  | [d1, d2] => { results := [.lit (.bool false)], args := [d1, d2] }
  | _ => none }
def CodeTellsWrongFalsely : Prop := codeTellsRow.holds Try.pinned (OpenSpec.ofChange codeTellsWrong)

/-- 'corsnedlaw08.CodeBack': WHATEVER THE INPUT: true; the input reads as it did. -/
def codeBackSpec : ChangeSpec := { name := "codeBack", fn := fun _ => fun
  | [d1, d2] => { results := [.lit (.bool true)], args := [d1, d2] }
  | _ => none }
def codeBackRow : OpenClaim := { program := "ytpgogpohkldhaaa", sum := "05028ecefd288e6459f7b3abd6e3c8e21ecbf8a9c6f910aeaa0e6947df3eb994", func := "corsned/corsnedlaw08.CodeBack", spec := "codeBack", unfollowed := true, recurses := true, apart := false }
def CodeBackSaid : Prop := codeBackRow.holds Try.pinned (OpenSpec.ofChange codeBackSpec)

/-- ITS FALSE NEIGHBOUR: 'it returns false'. Refute it at one input. -/
def codeBackWrong : ChangeSpec := { name := "codeBack", fn := fun _ => fun
  | [d1, d2] => { results := [.lit (.bool false)], args := [d1, d2] }
  | _ => none }
def CodeBackWrongFalsely : Prop := codeBackRow.holds Try.pinned (OpenSpec.ofChange codeBackWrong)

/-- 'corsnedlaw08.CodeAgain': WHATEVER THE INPUT: true; the input reads as it did. -/
def codeAgainSpec : ChangeSpec := { name := "codeAgain", fn := fun _ => fun
  | [d1, d2] => { results := [.lit (.bool true)], args := [d1, d2] }
  | _ => none }
def codeAgainRow : OpenClaim := { program := "ytpgogpohkldhaaa", sum := "05028ecefd288e6459f7b3abd6e3c8e21ecbf8a9c6f910aeaa0e6947df3eb994", func := "corsned/corsnedlaw08.CodeAgain", spec := "codeAgain", unfollowed := true, recurses := true, apart := false }
def CodeAgainSaid : Prop := codeAgainRow.holds Try.pinned (OpenSpec.ofChange codeAgainSpec)

/-- ITS FALSE NEIGHBOUR: 'it returns false'. Refute it at one input. -/
def codeAgainWrong : ChangeSpec := { name := "codeAgain", fn := fun _ => fun
  | [d1, d2] => { results := [.lit (.bool false)], args := [d1, d2] }
  | _ => none }
def CodeAgainWrongFalsely : Prop := codeAgainRow.holds Try.pinned (OpenSpec.ofChange codeAgainWrong)

/-- 'corsnedlaw08.CodeCut': WHATEVER THE INPUT: true; the input reads as it did. -/
def codeCutSpec : ChangeSpec := { name := "codeCut", fn := fun _ => fun
  | [d1, d2] => { results := [.lit (.bool true)], args := [d1, d2] }
  | _ => none }
def codeCutRow : OpenClaim := { program := "ytpgogpohkldhaaa", sum := "05028ecefd288e6459f7b3abd6e3c8e21ecbf8a9c6f910aeaa0e6947df3eb994", func := "corsned/corsnedlaw08.CodeCut", spec := "codeCut", unfollowed := true, recurses := true, apart := false }
def CodeCutSaid : Prop := codeCutRow.holds Try.pinned (OpenSpec.ofChange codeCutSpec)

/-- ITS FALSE NEIGHBOUR: 'it returns false'. Refute it at one input. -/
def codeCutWrong : ChangeSpec := { name := "codeCut", fn := fun _ => fun
  | [d1, d2] => { results := [.lit (.bool false)], args := [d1, d2] }
  | _ => none }
def CodeCutWrongFalsely : Prop := codeCutRow.holds Try.pinned (OpenSpec.ofChange codeCutWrong)

/- THE SECOND FORM. 'bulk': how many values and letters a reading holds, each counted each time it is reached (what is shared counts as often as it is met; a slice's spare places count too). A statement '..UptoSaid' is the law's where the arguments, and the package variables that the reading takes, are together of bulk at most 1048576: NARROWER than '..Said'. Prove '..Said' where nothing that the law and all that it calls make is longer than what came in: it says more and counts as full. Else prove '..UptoSaid'. A law counts once. -/
mutual
def uptoBulk {H : Type} : DataW H → Nat
  | .lit (.string bytes) => bytes.length + 1
  | .lit _ => 1
  | .nil => 1
  | .ptr d => uptoBulk d + 1
  | .slice elems spare => uptoBulkAll elems + uptoBulkAll spare + 1
  | .agg parts => uptoBulkAll parts + 1
  | .iface _ d => uptoBulk d + 1
  | .map entries => uptoBulkEntries entries + 1
  | .held _ => 1
def uptoBulkAll {H : Type} : List (DataW H) → Nat
  | [] => 0
  | d :: r => uptoBulk d + uptoBulkAll r
def uptoBulkEntries {H : Type} : List (Lit × DataW H) → Nat
  | [] => 0
  | x :: r => uptoBulkEntry x + uptoBulkEntries r
def uptoBulkEntry {H : Type} : Lit × DataW H → Nat
  | (.string bytes, d) => bytes.length + uptoBulk d + 1
  | (_, d) => uptoBulk d + 1
 end
def uptoSmall : (H : Type) → List (DataW H) → Bool := fun _ ds => decide (uptoBulkAll ds ≤ 1048576)
def OpenSpec.upto (s : _root_.Go.ChangeSpec) : _root_.Go.OpenSpec := { _root_.Go.OpenSpec.ofChange s with cond := some uptoSmall }

/-- 'corsnedlaw08.CodeOwn', WHERE WHAT IT READS IS OF BULK AT MOST 1048576: true; the input reads as it did. -/
def codeOwnUptoRow : OpenClaim := { program := "ytpgogpohkldhaaa", sum := "05028ecefd288e6459f7b3abd6e3c8e21ecbf8a9c6f910aeaa0e6947df3eb994", func := "corsned/corsnedlaw08.CodeOwn", spec := "codeOwn", unfollowed := true, recurses := true, apart := false, narrowed := true }
def CodeOwnUptoSaid : Prop := codeOwnUptoRow.holds Try.pinned (OpenSpec.upto codeOwnSpec)

/-- 'corsnedlaw08.CodeTells', WHERE WHAT IT READS IS OF BULK AT MOST 1048576: true; the input reads as it did. -/
def codeTellsUptoRow : OpenClaim := { program := "ytpgogpohkldhaaa", sum := "05028ecefd288e6459f7b3abd6e3c8e21ecbf8a9c6f910aeaa0e6947df3eb994", func := "corsned/corsnedlaw08.CodeTells", spec := "codeTells", unfollowed := true, recurses := true, apart := false, narrowed := true }
def CodeTellsUptoSaid : Prop := codeTellsUptoRow.holds Try.pinned (OpenSpec.upto codeTellsSpec)

/-- 'corsnedlaw08.CodeBack', WHERE WHAT IT READS IS OF BULK AT MOST 1048576: true; the input reads as it did. -/
def codeBackUptoRow : OpenClaim := { program := "ytpgogpohkldhaaa", sum := "05028ecefd288e6459f7b3abd6e3c8e21ecbf8a9c6f910aeaa0e6947df3eb994", func := "corsned/corsnedlaw08.CodeBack", spec := "codeBack", unfollowed := true, recurses := true, apart := false, narrowed := true }
def CodeBackUptoSaid : Prop := codeBackUptoRow.holds Try.pinned (OpenSpec.upto codeBackSpec)

/-- 'corsnedlaw08.CodeAgain', WHERE WHAT IT READS IS OF BULK AT MOST 1048576: true; the input reads as it did. -/
def codeAgainUptoRow : OpenClaim := { program := "ytpgogpohkldhaaa", sum := "05028ecefd288e6459f7b3abd6e3c8e21ecbf8a9c6f910aeaa0e6947df3eb994", func := "corsned/corsnedlaw08.CodeAgain", spec := "codeAgain", unfollowed := true, recurses := true, apart := false, narrowed := true }
def CodeAgainUptoSaid : Prop := codeAgainUptoRow.holds Try.pinned (OpenSpec.upto codeAgainSpec)

/-- 'corsnedlaw08.CodeCut', WHERE WHAT IT READS IS OF BULK AT MOST 1048576: true; the input reads as it did. -/
def codeCutUptoRow : OpenClaim := { program := "ytpgogpohkldhaaa", sum := "05028ecefd288e6459f7b3abd6e3c8e21ecbf8a9c6f910aeaa0e6947df3eb994", func := "corsned/corsnedlaw08.CodeCut", spec := "codeCut", unfollowed := true, recurses := true, apart := false, narrowed := true }
def CodeCutUptoSaid : Prop := codeCutUptoRow.holds Try.pinned (OpenSpec.upto codeCutSpec)

end Rows
end Go.Proofs.Ytpgogpohkldhaaa
