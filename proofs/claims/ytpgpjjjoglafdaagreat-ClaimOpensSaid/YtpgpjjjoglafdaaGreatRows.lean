/-
  No cell of these rows narrows 'for every input' (looked for: loops, veiled, ifaces, maps, wideKeys, modest, calm, conditions, laid).
  DERIVED. THE GIVEN ROWS OF THIS SEAT. 3 by the template 'for every input the law returns true; each argument reads behind the call as it read before'; 0 by the template 'total and deterministic' (their statements: YtpgpjjjoglafdaaGreatTotals.lean).
  GIVEN WITH THE SEED: the statements are not yours to turn. If you find one false, say at which input.
  Laid BY PROGRAM, IN A SANDBOX (cutbox-rows.mjs): the forced cells as the released guide's own fill.sh prints them over the translation c5fe6bd5ed555c2b… (all of the seat's roots in one cut). By AI agents, Wed Nov 11 2026. No macro, syntax, notation, axiom, sorry.
-/
import Derived.Test.YtpgpjjjoglafdaaGreatChecked
import GoSem.Claim
import GoSem.ClaimJoined
import GoSem.ClaimMapViews
import Derived.JoinedTies
import Derived.KernelRfl
namespace Go.Proofs.YtpgpjjjoglafdaaGreat
/- THE CELL 'sum', in the pinned program and in every row, IS THE sha256 OF THE DUMP (.gsa) THAT YtpgpjjjoglafdaaGreatProg.lean LOADS. Nothing in Lean hashes anything: it is a label: what it is worth is what the hold of that sum in a sandbox is worth. -/
noncomputable def Tryz.pinned : Pinned := { name := "ytpgpjjjoglafdaagreat", sum := "c5fe6bd5ed555c2b55d37416a295e73567ceba7605c3a9e28d027f66548008fe", checked := Tryz.checked }
namespace Rows
def none {H : Type} : Left H := { results := [], args := [] }

/-- 'corsnedlaw25.ClaimTells': WHATEVER THE INPUT: true; the input reads as it did. -/
def claimTellsSpec : ChangeSpec := { name := "claimTells", fn := fun _ => fun
  | [d1, d2, d3, d4, d5, d6, d7, d8] => { results := [.lit (.bool true)], args := [d1, d2, d3, d4, d5, d6, d7, d8] }
  | _ => none }
def claimTellsRow : OpenClaim := { program := "ytpgpjjjoglafdaagreat", sum := "c5fe6bd5ed555c2b55d37416a295e73567ceba7605c3a9e28d027f66548008fe", func := "corsned/corsnedlaw25.ClaimTells", spec := "claimTells", inPlace := ["internal/bytealg.Compare"], unfollowed := true, recurses := true, named := ["math/bits.divideError", "math/bits.overflowError"], plainKeys := false, apart := false }
def ClaimTellsSaid : Prop := claimTellsRow.holds Tryz.pinned (OpenSpec.ofChange claimTellsSpec)

/-- ITS FALSE NEIGHBOUR: 'it returns false'. Refute it at one input. -/
def claimTellsWrong : ChangeSpec := { name := "claimTells", fn := fun _ => fun
  | [d1, d2, d3, d4, d5, d6, d7, d8] => { results := [.lit (.bool false)], args := [d1, d2, d3, d4, d5, d6, d7, d8] }
  | _ => none }
def ClaimTellsWrongFalsely : Prop := claimTellsRow.holds Tryz.pinned (OpenSpec.ofChange claimTellsWrong)

/-- 'corsnedlaw25.ClaimSides': WHATEVER THE INPUT: true; the input reads as it did. -/
def claimSidesSpec : ChangeSpec := { name := "claimSides", fn := fun _ => fun
  | [d1, d2, d3, d4, d5, d6, d7] => { results := [.lit (.bool true)], args := [d1, d2, d3, d4, d5, d6, d7] }
  | _ => none }
def claimSidesRow : OpenClaim := { program := "ytpgpjjjoglafdaagreat", sum := "c5fe6bd5ed555c2b55d37416a295e73567ceba7605c3a9e28d027f66548008fe", func := "corsned/corsnedlaw25.ClaimSides", spec := "claimSides", inPlace := ["internal/bytealg.Compare"], unfollowed := true, recurses := true, named := ["math/bits.divideError", "math/bits.overflowError"], plainKeys := false, apart := false }
def ClaimSidesSaid : Prop := claimSidesRow.holds Tryz.pinned (OpenSpec.ofChange claimSidesSpec)

/-- ITS FALSE NEIGHBOUR: 'it returns false'. Refute it at one input. -/
def claimSidesWrong : ChangeSpec := { name := "claimSides", fn := fun _ => fun
  | [d1, d2, d3, d4, d5, d6, d7] => { results := [.lit (.bool false)], args := [d1, d2, d3, d4, d5, d6, d7] }
  | _ => none }
def ClaimSidesWrongFalsely : Prop := claimSidesRow.holds Tryz.pinned (OpenSpec.ofChange claimSidesWrong)

/-- 'corsnedlaw25.ClaimOpens': WHATEVER THE INPUT: true; the input reads as it did. -/
def claimOpensSpec : ChangeSpec := { name := "claimOpens", fn := fun _ => fun
  | [d1, d2, d3, d4, d5, d6, d7, d8, d9, d10] => { results := [.lit (.bool true)], args := [d1, d2, d3, d4, d5, d6, d7, d8, d9, d10] }
  | _ => none }
def claimOpensRow : OpenClaim := { program := "ytpgpjjjoglafdaagreat", sum := "c5fe6bd5ed555c2b55d37416a295e73567ceba7605c3a9e28d027f66548008fe", func := "corsned/corsnedlaw25.ClaimOpens", spec := "claimOpens", inPlace := ["internal/bytealg.Compare"], unfollowed := true, recurses := true, named := ["math/bits.divideError", "math/bits.overflowError"], plainKeys := false, apart := false }
def ClaimOpensSaid : Prop := claimOpensRow.holds Tryz.pinned (OpenSpec.ofChange claimOpensSpec)

/-- ITS FALSE NEIGHBOUR: 'it returns false'. Refute it at one input. -/
def claimOpensWrong : ChangeSpec := { name := "claimOpens", fn := fun _ => fun
  | [d1, d2, d3, d4, d5, d6, d7, d8, d9, d10] => { results := [.lit (.bool false)], args := [d1, d2, d3, d4, d5, d6, d7, d8, d9, d10] }
  | _ => none }
def ClaimOpensWrongFalsely : Prop := claimOpensRow.holds Tryz.pinned (OpenSpec.ofChange claimOpensWrong)

/- THE SECOND FORM. 'bulk': how many values and letters a reading holds, each counted each time it is reached (what is shared counts as often as it is met; a slice's spare places count too). A statement '..UptoSaid' is the law's where the arguments, and the package variables that the reading takes, are together of bulk at most 1048576: NARROWER than '..Said'. Prove '..Said' where nothing that the law and all that it calls make is longer than what came in: it says more and counts as full. Else prove '..UptoSaid'. A law counts once. -/
mutual
def uptoBulk {H : Type} : DataW H → Nat
  | .lit (.string bytes) => bytes.length + 1
  | .lit _ => 1
  | .nil => 1
  | .ptr d => uptoBulk d + 1
  | .slice elems spare => uptoBulkAll elems + uptoBulkAll spare + 1
  | .agg parts => uptoBulkAll parts + 1
  | .iface _ d => uptoBulk d + 1
  | .map entries => uptoBulkEntries entries + 1
  | .held _ => 1
def uptoBulkAll {H : Type} : List (DataW H) → Nat
  | [] => 0
  | d :: r => uptoBulk d + uptoBulkAll r
def uptoBulkEntries {H : Type} : List (Lit × DataW H) → Nat
  | [] => 0
  | x :: r => uptoBulkEntry x + uptoBulkEntries r
def uptoBulkEntry {H : Type} : Lit × DataW H → Nat
  | (.string bytes, d) => bytes.length + uptoBulk d + 1
  | (_, d) => uptoBulk d + 1
 end
def uptoSmall : (H : Type) → List (DataW H) → Bool := fun _ ds => decide (uptoBulkAll ds ≤ 1048576)
def OpenSpec.upto (s : _root_.Go.ChangeSpec) : _root_.Go.OpenSpec := { _root_.Go.OpenSpec.ofChange s with cond := some uptoSmall }

/-- 'corsnedlaw25.ClaimTells', WHERE WHAT IT READS IS OF BULK AT MOST 1048576: true; the input reads as it did. -/
def claimTellsUptoRow : OpenClaim := { program := "ytpgpjjjoglafdaagreat", sum := "c5fe6bd5ed555c2b55d37416a295e73567ceba7605c3a9e28d027f66548008fe", func := "corsned/corsnedlaw25.ClaimTells", spec := "claimTells", inPlace := ["internal/bytealg.Compare"], unfollowed := true, recurses := true, named := ["math/bits.divideError", "math/bits.overflowError"], plainKeys := false, apart := false, narrowed := true }
def ClaimTellsUptoSaid : Prop := claimTellsUptoRow.holds Tryz.pinned (OpenSpec.upto claimTellsSpec)

/-- 'corsnedlaw25.ClaimSides', WHERE WHAT IT READS IS OF BULK AT MOST 1048576: true; the input reads as it did. -/
def claimSidesUptoRow : OpenClaim := { program := "ytpgpjjjoglafdaagreat", sum := "c5fe6bd5ed555c2b55d37416a295e73567ceba7605c3a9e28d027f66548008fe", func := "corsned/corsnedlaw25.ClaimSides", spec := "claimSides", inPlace := ["internal/bytealg.Compare"], unfollowed := true, recurses := true, named := ["math/bits.divideError", "math/bits.overflowError"], plainKeys := false, apart := false, narrowed := true }
def ClaimSidesUptoSaid : Prop := claimSidesUptoRow.holds Tryz.pinned (OpenSpec.upto claimSidesSpec)

/-- 'corsnedlaw25.ClaimOpens', WHERE WHAT IT READS IS OF BULK AT MOST 1048576: true; the input reads as it did. -/
def claimOpensUptoRow : OpenClaim := { program := "ytpgpjjjoglafdaagreat", sum := "c5fe6bd5ed555c2b55d37416a295e73567ceba7605c3a9e28d027f66548008fe", func := "corsned/corsnedlaw25.ClaimOpens", spec := "claimOpens", inPlace := ["internal/bytealg.Compare"], unfollowed := true, recurses := true, named := ["math/bits.divideError", "math/bits.overflowError"], plainKeys := false, apart := false, narrowed := true }
def ClaimOpensUptoSaid : Prop := claimOpensUptoRow.holds Tryz.pinned (OpenSpec.upto claimOpensSpec)

end Rows
end Go.Proofs.YtpgpjjjoglafdaaGreat
