/-
  No cell of these rows narrows 'for every input' (looked for: loops, veiled, ifaces, maps, wideKeys, modest, calm, conditions, laid).
  DERIVED. THE GIVEN ROWS OF THIS SEAT. 5 by the template 'for every input the law returns true; each argument reads behind the call as it read before'; 0 by the template 'total and deterministic' (their statements: YtghfiijgklnflaaGreatTotals.lean).
  GIVEN WITH THE SEED: the statements are not yours to turn. If you find one false, say at which input.
  Laid BY PROGRAM, IN A SANDBOX (cutbox-rows.mjs): the forced cells as the released guide's own fill.sh prints them over the translation 6a0f211d4a48ee3c… (all of the seat's roots in one cut). By AI agents, Wed Nov 11 2026. No macro, syntax, notation, axiom, sorry.
-/
import Derived.Test.YtghfiijgklnflaaGreatChecked
import GoSem.Claim
import GoSem.ClaimJoined
import GoSem.ClaimMapViews
import Derived.JoinedTies
import Derived.KernelRfl
namespace Go.Proofs.YtghfiijgklnflaaGreat
/- THE CELL 'sum', in the pinned program and in every row, IS THE sha256 OF THE DUMP (.gsa) THAT YtghfiijgklnflaaGreatProg.lean LOADS. Nothing in Lean hashes anything: it is a label: what it is worth is what the hold of that sum in a sandbox is worth. -/
noncomputable def Tryz.pinned : Pinned := { name := "ytghfiijgklnflaagreat", sum := "6a0f211d4a48ee3cd6ca4d6d66cf38ce31a716698ff30bb76c077ec308c6e792", checked := Tryz.checked }
namespace Rows
def none {H : Type} : Left H := { results := [], args := [] }

/-- 'corsnedlaw42.TowerTells': WHATEVER THE INPUT: true; the input reads as it did. -/
def towerTellsSpec : ChangeSpec := { name := "towerTells", fn := fun _ => fun
  | [d1, d2, d3, d4] => { results := [.lit (.bool true)], args := [d1, d2, d3, d4] }
  | _ => none }
def towerTellsRow : OpenClaim := { program := "ytghfiijgklnflaagreat", sum := "6a0f211d4a48ee3cd6ca4d6d66cf38ce31a716698ff30bb76c077ec308c6e792", func := "corsned/corsnedlaw42.TowerTells", spec := "towerTells", unfollowed := true, recurses := true, named := ["math/bits.divideError", "math/bits.overflowError"], plainKeys := false, apart := false }
def TowerTellsSaid : Prop := towerTellsRow.holds Tryz.pinned (OpenSpec.ofChange towerTellsSpec)

/-- ITS FALSE NEIGHBOUR: 'it returns false'. Refute it at one input. -/
def towerTellsWrong : ChangeSpec := { name := "towerTells", fn := fun _ => fun
  | [d1, d2, d3, d4] => { results := [.lit (.bool false)], args := [d1, d2, d3, d4] }
  | _ => none }
def TowerTellsWrongFalsely : Prop := towerTellsRow.holds Tryz.pinned (OpenSpec.ofChange towerTellsWrong)

/-- 'corsnedlaw43.GuardWraps': WHATEVER THE INPUT: true; the input reads as it did. -/
def guardWrapsSpec : ChangeSpec := { name := "guardWraps", fn := fun _ => fun
  | [d1, d2, d3] => { results := [.lit (.bool true)], args := [d1, d2, d3] }
  | _ => none }
def guardWrapsRow : OpenClaim := { program := "ytghfiijgklnflaagreat", sum := "6a0f211d4a48ee3cd6ca4d6d66cf38ce31a716698ff30bb76c077ec308c6e792", func := "corsned/corsnedlaw43.GuardWraps", spec := "guardWraps", inPlace := ["internal/bytealg.Compare"], unfollowed := true, recurses := true, named := ["math/bits.divideError", "math/bits.overflowError"], plainKeys := false, apart := false }
def GuardWrapsSaid : Prop := guardWrapsRow.holds Tryz.pinned (OpenSpec.ofChange guardWrapsSpec)

/-- ITS FALSE NEIGHBOUR: 'it returns false'. Refute it at one input. -/
def guardWrapsWrong : ChangeSpec := { name := "guardWraps", fn := fun _ => fun
  | [d1, d2, d3] => { results := [.lit (.bool false)], args := [d1, d2, d3] }
  | _ => none }
def GuardWrapsWrongFalsely : Prop := guardWrapsRow.holds Tryz.pinned (OpenSpec.ofChange guardWrapsWrong)

/-- 'corsnedlaw43.GuardReplaced': WHATEVER THE INPUT: true; the input reads as it did. -/
def guardReplacedSpec : ChangeSpec := { name := "guardReplaced", fn := fun _ => fun
  | [d1, d2, d3, d4, d5] => { results := [.lit (.bool true)], args := [d1, d2, d3, d4, d5] }
  | _ => none }
def guardReplacedRow : OpenClaim := { program := "ytghfiijgklnflaagreat", sum := "6a0f211d4a48ee3cd6ca4d6d66cf38ce31a716698ff30bb76c077ec308c6e792", func := "corsned/corsnedlaw43.GuardReplaced", spec := "guardReplaced", inPlace := ["internal/bytealg.Compare"], unfollowed := true, recurses := true, named := ["math/bits.divideError", "math/bits.overflowError"], plainKeys := false, apart := false }
def GuardReplacedSaid : Prop := guardReplacedRow.holds Tryz.pinned (OpenSpec.ofChange guardReplacedSpec)

/-- ITS FALSE NEIGHBOUR: 'it returns false'. Refute it at one input. -/
def guardReplacedWrong : ChangeSpec := { name := "guardReplaced", fn := fun _ => fun
  | [d1, d2, d3, d4, d5] => { results := [.lit (.bool false)], args := [d1, d2, d3, d4, d5] }
  | _ => none }
def GuardReplacedWrongFalsely : Prop := guardReplacedRow.holds Tryz.pinned (OpenSpec.ofChange guardReplacedWrong)

/-- 'corsnedlaw43.GuardAudits': WHATEVER THE INPUT: true; the input reads as it did. -/
def guardAuditsSpec : ChangeSpec := { name := "guardAudits", fn := fun _ => fun
  | [d1, d2, d3] => { results := [.lit (.bool true)], args := [d1, d2, d3] }
  | _ => none }
def guardAuditsRow : OpenClaim := { program := "ytghfiijgklnflaagreat", sum := "6a0f211d4a48ee3cd6ca4d6d66cf38ce31a716698ff30bb76c077ec308c6e792", func := "corsned/corsnedlaw43.GuardAudits", spec := "guardAudits", inPlace := ["internal/bytealg.Compare"], unfollowed := true, recurses := true, named := ["math/bits.divideError", "math/bits.overflowError"], plainKeys := false, apart := false }
def GuardAuditsSaid : Prop := guardAuditsRow.holds Tryz.pinned (OpenSpec.ofChange guardAuditsSpec)

/-- ITS FALSE NEIGHBOUR: 'it returns false'. Refute it at one input. -/
def guardAuditsWrong : ChangeSpec := { name := "guardAudits", fn := fun _ => fun
  | [d1, d2, d3] => { results := [.lit (.bool false)], args := [d1, d2, d3] }
  | _ => none }
def GuardAuditsWrongFalsely : Prop := guardAuditsRow.holds Tryz.pinned (OpenSpec.ofChange guardAuditsWrong)

/-- 'corsnedlaw43.GuardTells': WHATEVER THE INPUT: true; the input reads as it did. -/
def guardTellsSpec : ChangeSpec := { name := "guardTells", fn := fun _ => fun
  | [d1, d2, d3, d4] => { results := [.lit (.bool true)], args := [d1, d2, d3, d4] }
  | _ => none }
def guardTellsRow : OpenClaim := { program := "ytghfiijgklnflaagreat", sum := "6a0f211d4a48ee3cd6ca4d6d66cf38ce31a716698ff30bb76c077ec308c6e792", func := "corsned/corsnedlaw43.GuardTells", spec := "guardTells", inPlace := ["internal/bytealg.Compare"], unfollowed := true, recurses := true, named := ["math/bits.divideError", "math/bits.overflowError"], plainKeys := false, apart := false }
def GuardTellsSaid : Prop := guardTellsRow.holds Tryz.pinned (OpenSpec.ofChange guardTellsSpec)

/-- ITS FALSE NEIGHBOUR: 'it returns false'. Refute it at one input. -/
def guardTellsWrong : ChangeSpec := { name := "guardTells", fn := fun _ => fun
  | [d1, d2, d3, d4] => { results := [.lit (.bool false)], args := [d1, d2, d3, d4] }
  | _ => none }
def GuardTellsWrongFalsely : Prop := guardTellsRow.holds Tryz.pinned (OpenSpec.ofChange guardTellsWrong)

/- THE SECOND FORM. 'bulk': how many values and letters a reading holds, each counted each time it is reached (what is shared counts as often as it is met; a slice's spare places count too). A statement '..UptoSaid' is the law's where the arguments, and the package variables that the reading takes, are together of bulk at most 1048576: NARROWER than '..Said'. Prove '..Said' where nothing that the law and all that it calls make is longer than what came in: it says more and counts as full. Else prove '..UptoSaid'. A law counts once. -/
mutual
def uptoBulk {H : Type} : DataW H → Nat
  | .lit (.string bytes) => bytes.length + 1
  | .lit _ => 1
  | .nil => 1
  | .ptr d => uptoBulk d + 1
  | .slice elems spare => uptoBulkAll elems + uptoBulkAll spare + 1
  | .agg parts => uptoBulkAll parts + 1
  | .iface _ d => uptoBulk d + 1
  | .map entries => uptoBulkEntries entries + 1
  | .held _ => 1
def uptoBulkAll {H : Type} : List (DataW H) → Nat
  | [] => 0
  | d :: r => uptoBulk d + uptoBulkAll r
def uptoBulkEntries {H : Type} : List (Lit × DataW H) → Nat
  | [] => 0
  | x :: r => uptoBulkEntry x + uptoBulkEntries r
def uptoBulkEntry {H : Type} : Lit × DataW H → Nat
  | (.string bytes, d) => bytes.length + uptoBulk d + 1
  | (_, d) => uptoBulk d + 1
 end
def uptoSmall : (H : Type) → List (DataW H) → Bool := fun _ ds => decide (uptoBulkAll ds ≤ 1048576)
def OpenSpec.upto (s : _root_.Go.ChangeSpec) : _root_.Go.OpenSpec := { _root_.Go.OpenSpec.ofChange s with cond := some uptoSmall }

/-- 'corsnedlaw42.TowerTells', WHERE WHAT IT READS IS OF BULK AT MOST 1048576: true; the input reads as it did. -/
def towerTellsUptoRow : OpenClaim := { program := "ytghfiijgklnflaagreat", sum := "6a0f211d4a48ee3cd6ca4d6d66cf38ce31a716698ff30bb76c077ec308c6e792", func := "corsned/corsnedlaw42.TowerTells", spec := "towerTells", unfollowed := true, recurses := true, named := ["math/bits.divideError", "math/bits.overflowError"], plainKeys := false, apart := false, narrowed := true }
def TowerTellsUptoSaid : Prop := towerTellsUptoRow.holds Tryz.pinned (OpenSpec.upto towerTellsSpec)

/-- 'corsnedlaw43.GuardWraps', WHERE WHAT IT READS IS OF BULK AT MOST 1048576: true; the input reads as it did. -/
def guardWrapsUptoRow : OpenClaim := { program := "ytghfiijgklnflaagreat", sum := "6a0f211d4a48ee3cd6ca4d6d66cf38ce31a716698ff30bb76c077ec308c6e792", func := "corsned/corsnedlaw43.GuardWraps", spec := "guardWraps", inPlace := ["internal/bytealg.Compare"], unfollowed := true, recurses := true, named := ["math/bits.divideError", "math/bits.overflowError"], plainKeys := false, apart := false, narrowed := true }
def GuardWrapsUptoSaid : Prop := guardWrapsUptoRow.holds Tryz.pinned (OpenSpec.upto guardWrapsSpec)

/-- 'corsnedlaw43.GuardReplaced', WHERE WHAT IT READS IS OF BULK AT MOST 1048576: true; the input reads as it did. -/
def guardReplacedUptoRow : OpenClaim := { program := "ytghfiijgklnflaagreat", sum := "6a0f211d4a48ee3cd6ca4d6d66cf38ce31a716698ff30bb76c077ec308c6e792", func := "corsned/corsnedlaw43.GuardReplaced", spec := "guardReplaced", inPlace := ["internal/bytealg.Compare"], unfollowed := true, recurses := true, named := ["math/bits.divideError", "math/bits.overflowError"], plainKeys := false, apart := false, narrowed := true }
def GuardReplacedUptoSaid : Prop := guardReplacedUptoRow.holds Tryz.pinned (OpenSpec.upto guardReplacedSpec)

/-- 'corsnedlaw43.GuardAudits', WHERE WHAT IT READS IS OF BULK AT MOST 1048576: true; the input reads as it did. -/
def guardAuditsUptoRow : OpenClaim := { program := "ytghfiijgklnflaagreat", sum := "6a0f211d4a48ee3cd6ca4d6d66cf38ce31a716698ff30bb76c077ec308c6e792", func := "corsned/corsnedlaw43.GuardAudits", spec := "guardAudits", inPlace := ["internal/bytealg.Compare"], unfollowed := true, recurses := true, named := ["math/bits.divideError", "math/bits.overflowError"], plainKeys := false, apart := false, narrowed := true }
def GuardAuditsUptoSaid : Prop := guardAuditsUptoRow.holds Tryz.pinned (OpenSpec.upto guardAuditsSpec)

/-- 'corsnedlaw43.GuardTells', WHERE WHAT IT READS IS OF BULK AT MOST 1048576: true; the input reads as it did. -/
def guardTellsUptoRow : OpenClaim := { program := "ytghfiijgklnflaagreat", sum := "6a0f211d4a48ee3cd6ca4d6d66cf38ce31a716698ff30bb76c077ec308c6e792", func := "corsned/corsnedlaw43.GuardTells", spec := "guardTells", inPlace := ["internal/bytealg.Compare"], unfollowed := true, recurses := true, named := ["math/bits.divideError", "math/bits.overflowError"], plainKeys := false, apart := false, narrowed := true }
def GuardTellsUptoSaid : Prop := guardTellsUptoRow.holds Tryz.pinned (OpenSpec.upto guardTellsSpec)

end Rows
end Go.Proofs.YtghfiijgklnflaaGreat
