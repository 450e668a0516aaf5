/-
  No cell of these rows narrows 'for every input' (looked for: loops, veiled, ifaces, maps, wideKeys, modest, calm, conditions, laid).
  DERIVED. THE GIVEN ROWS OF THIS SEAT. 5 by the template 'for every input the law returns true; each argument reads behind the call as it read before'; 0 by the template 'total and deterministic' (their statements: YtcbhhaigilifgaaGreatTotals.lean).
  GIVEN WITH THE SEED: the statements are not yours to turn. If you find one false, say at which input.
  Laid BY PROGRAM, IN A SANDBOX (cutbox-rows.mjs): the forced cells as the released guide's own fill.sh prints them over the translation 08b8d21a2f173564… (all of the seat's roots in one cut). By AI agents, Wed Nov 11 2026. No macro, syntax, notation, axiom, sorry.
-/
import Derived.Test.YtcbhhaigilifgaaGreatChecked
import GoSem.Claim
import GoSem.ClaimJoined
import GoSem.ClaimMapViews
import Derived.JoinedTies
import Derived.KernelRfl
namespace Go.Proofs.YtcbhhaigilifgaaGreat
/- THE CELL 'sum', in the pinned program and in every row, IS THE sha256 OF THE DUMP (.gsa) THAT YtcbhhaigilifgaaGreatProg.lean LOADS. Nothing in Lean hashes anything: it is a label: what it is worth is what the hold of that sum in a sandbox is worth. -/
noncomputable def Tryz.pinned : Pinned := { name := "ytcbhhaigilifgaagreat", sum := "08b8d21a2f1735648876e1e115224a18ed3d3bffaca3a80cfa35a70aeb9f1550", checked := Tryz.checked }
namespace Rows
def none {H : Type} : Left H := { results := [], args := [] }

/-- 'corsnedlaw28.SplicePlans': WHATEVER THE INPUT: true; the input reads as it did. -/
def splicePlansSpec : ChangeSpec := { name := "splicePlans", fn := fun _ => fun
  | [d1, d2, d3] => { results := [.lit (.bool true)], args := [d1, d2, d3] }
  | _ => none }
def splicePlansRow : OpenClaim := { program := "ytcbhhaigilifgaagreat", sum := "08b8d21a2f1735648876e1e115224a18ed3d3bffaca3a80cfa35a70aeb9f1550", func := "corsned/corsnedlaw28.SplicePlans", spec := "splicePlans", inPlace := ["slices.overlaps[corsned/api.Cond]", "internal/bytealg.Compare"], unfollowed := true, recurses := true, named := ["math/bits.divideError", "math/bits.overflowError"], plainKeys := false, apart := false }
def SplicePlansSaid : Prop := splicePlansRow.holds Tryz.pinned (OpenSpec.ofChange splicePlansSpec)

/-- ITS FALSE NEIGHBOUR: 'it returns false'. Refute it at one input. -/
def splicePlansWrong : ChangeSpec := { name := "splicePlans", fn := fun _ => fun
  | [d1, d2, d3] => { results := [.lit (.bool false)], args := [d1, d2, d3] }
  | _ => none }
def SplicePlansWrongFalsely : Prop := splicePlansRow.holds Tryz.pinned (OpenSpec.ofChange splicePlansWrong)

/-- 'corsnedlaw28.SpliceBack': WHATEVER THE INPUT: true; the input reads as it did. -/
def spliceBackSpec : ChangeSpec := { name := "spliceBack", fn := fun _ => fun
  | [d1, d2, d3, d4, d5] => { results := [.lit (.bool true)], args := [d1, d2, d3, d4, d5] }
  | _ => none }
def spliceBackRow : OpenClaim := { program := "ytcbhhaigilifgaagreat", sum := "08b8d21a2f1735648876e1e115224a18ed3d3bffaca3a80cfa35a70aeb9f1550", func := "corsned/corsnedlaw28.SpliceBack", spec := "spliceBack", inPlace := ["slices.overlaps[corsned/api.Cond]", "internal/bytealg.Compare"], unfollowed := true, recurses := true, named := ["math/bits.divideError", "math/bits.overflowError"], plainKeys := false, apart := false }
def SpliceBackSaid : Prop := spliceBackRow.holds Tryz.pinned (OpenSpec.ofChange spliceBackSpec)

/-- ITS FALSE NEIGHBOUR: 'it returns false'. Refute it at one input. -/
def spliceBackWrong : ChangeSpec := { name := "spliceBack", fn := fun _ => fun
  | [d1, d2, d3, d4, d5] => { results := [.lit (.bool false)], args := [d1, d2, d3, d4, d5] }
  | _ => none }
def SpliceBackWrongFalsely : Prop := spliceBackRow.holds Tryz.pinned (OpenSpec.ofChange spliceBackWrong)

/-- 'corsnedlaw28.SpliceKeeps': WHATEVER THE INPUT: true; the input reads as it did. -/
def spliceKeepsSpec : ChangeSpec := { name := "spliceKeeps", fn := fun _ => fun
  | [d1, d2] => { results := [.lit (.bool true)], args := [d1, d2] }
  | _ => none }
def spliceKeepsRow : OpenClaim := { program := "ytcbhhaigilifgaagreat", sum := "08b8d21a2f1735648876e1e115224a18ed3d3bffaca3a80cfa35a70aeb9f1550", func := "corsned/corsnedlaw28.SpliceKeeps", spec := "spliceKeeps", inPlace := ["slices.overlaps[corsned/api.Cond]", "internal/bytealg.Compare"], unfollowed := true, recurses := true, named := ["math/bits.divideError", "math/bits.overflowError"], plainKeys := false, apart := false }
def SpliceKeepsSaid : Prop := spliceKeepsRow.holds Tryz.pinned (OpenSpec.ofChange spliceKeepsSpec)

/-- ITS FALSE NEIGHBOUR: 'it returns false'. Refute it at one input. -/
def spliceKeepsWrong : ChangeSpec := { name := "spliceKeeps", fn := fun _ => fun
  | [d1, d2] => { results := [.lit (.bool false)], args := [d1, d2] }
  | _ => none }
def SpliceKeepsWrongFalsely : Prop := spliceKeepsRow.holds Tryz.pinned (OpenSpec.ofChange spliceKeepsWrong)

/-- 'corsnedlaw28.SpliceStands': WHATEVER THE INPUT: true; the input reads as it did. -/
def spliceStandsSpec : ChangeSpec := { name := "spliceStands", fn := fun _ => fun
  | [d1, d2, d3, d4, d5] => { results := [.lit (.bool true)], args := [d1, d2, d3, d4, d5] }
  | _ => none }
def spliceStandsRow : OpenClaim := { program := "ytcbhhaigilifgaagreat", sum := "08b8d21a2f1735648876e1e115224a18ed3d3bffaca3a80cfa35a70aeb9f1550", func := "corsned/corsnedlaw28.SpliceStands", spec := "spliceStands", inPlace := ["slices.overlaps[corsned/api.Cond]", "internal/bytealg.Compare"], unfollowed := true, recurses := true, named := ["math/bits.divideError", "math/bits.overflowError"], plainKeys := false, apart := false }
def SpliceStandsSaid : Prop := spliceStandsRow.holds Tryz.pinned (OpenSpec.ofChange spliceStandsSpec)

/-- ITS FALSE NEIGHBOUR: 'it returns false'. Refute it at one input. -/
def spliceStandsWrong : ChangeSpec := { name := "spliceStands", fn := fun _ => fun
  | [d1, d2, d3, d4, d5] => { results := [.lit (.bool false)], args := [d1, d2, d3, d4, d5] }
  | _ => none }
def SpliceStandsWrongFalsely : Prop := spliceStandsRow.holds Tryz.pinned (OpenSpec.ofChange spliceStandsWrong)

/-- 'corsnedlaw28.SpliceClaims': WHATEVER THE INPUT: true; the input reads as it did. -/
def spliceClaimsSpec : ChangeSpec := { name := "spliceClaims", fn := fun _ => fun
  | [d1, d2, d3, d4, d5, d6, d7] => { results := [.lit (.bool true)], args := [d1, d2, d3, d4, d5, d6, d7] }
  | _ => none }
def spliceClaimsRow : OpenClaim := { program := "ytcbhhaigilifgaagreat", sum := "08b8d21a2f1735648876e1e115224a18ed3d3bffaca3a80cfa35a70aeb9f1550", func := "corsned/corsnedlaw28.SpliceClaims", spec := "spliceClaims", inPlace := ["slices.overlaps[corsned/api.Cond]", "internal/bytealg.Compare"], unfollowed := true, recurses := true, named := ["math/bits.divideError", "math/bits.overflowError"], plainKeys := false, apart := false }
def SpliceClaimsSaid : Prop := spliceClaimsRow.holds Tryz.pinned (OpenSpec.ofChange spliceClaimsSpec)

/-- ITS FALSE NEIGHBOUR: 'it returns false'. Refute it at one input. -/
def spliceClaimsWrong : ChangeSpec := { name := "spliceClaims", fn := fun _ => fun
  | [d1, d2, d3, d4, d5, d6, d7] => { results := [.lit (.bool false)], args := [d1, d2, d3, d4, d5, d6, d7] }
  | _ => none }
def SpliceClaimsWrongFalsely : Prop := spliceClaimsRow.holds Tryz.pinned (OpenSpec.ofChange spliceClaimsWrong)

/- THE SECOND FORM. 'bulk': how many values and letters a reading holds, each counted each time it is reached (what is shared counts as often as it is met; a slice's spare places count too). A statement '..UptoSaid' is the law's where the arguments, and the package variables that the reading takes, are together of bulk at most 1048576: NARROWER than '..Said'. Prove '..Said' where nothing that the law and all that it calls make is longer than what came in: it says more and counts as full. Else prove '..UptoSaid'. A law counts once. -/
mutual
def uptoBulk {H : Type} : DataW H → Nat
  | .lit (.string bytes) => bytes.length + 1
  | .lit _ => 1
  | .nil => 1
  | .ptr d => uptoBulk d + 1
  | .slice elems spare => uptoBulkAll elems + uptoBulkAll spare + 1
  | .agg parts => uptoBulkAll parts + 1
  | .iface _ d => uptoBulk d + 1
  | .map entries => uptoBulkEntries entries + 1
  | .held _ => 1
def uptoBulkAll {H : Type} : List (DataW H) → Nat
  | [] => 0
  | d :: r => uptoBulk d + uptoBulkAll r
def uptoBulkEntries {H : Type} : List (Lit × DataW H) → Nat
  | [] => 0
  | x :: r => uptoBulkEntry x + uptoBulkEntries r
def uptoBulkEntry {H : Type} : Lit × DataW H → Nat
  | (.string bytes, d) => bytes.length + uptoBulk d + 1
  | (_, d) => uptoBulk d + 1
 end
def uptoSmall : (H : Type) → List (DataW H) → Bool := fun _ ds => decide (uptoBulkAll ds ≤ 1048576)
def OpenSpec.upto (s : _root_.Go.ChangeSpec) : _root_.Go.OpenSpec := { _root_.Go.OpenSpec.ofChange s with cond := some uptoSmall }

/-- 'corsnedlaw28.SplicePlans', WHERE WHAT IT READS IS OF BULK AT MOST 1048576: true; the input reads as it did. -/
def splicePlansUptoRow : OpenClaim := { program := "ytcbhhaigilifgaagreat", sum := "08b8d21a2f1735648876e1e115224a18ed3d3bffaca3a80cfa35a70aeb9f1550", func := "corsned/corsnedlaw28.SplicePlans", spec := "splicePlans", inPlace := ["slices.overlaps[corsned/api.Cond]", "internal/bytealg.Compare"], unfollowed := true, recurses := true, named := ["math/bits.divideError", "math/bits.overflowError"], plainKeys := false, apart := false, narrowed := true }
def SplicePlansUptoSaid : Prop := splicePlansUptoRow.holds Tryz.pinned (OpenSpec.upto splicePlansSpec)

/-- 'corsnedlaw28.SpliceBack', WHERE WHAT IT READS IS OF BULK AT MOST 1048576: true; the input reads as it did. -/
def spliceBackUptoRow : OpenClaim := { program := "ytcbhhaigilifgaagreat", sum := "08b8d21a2f1735648876e1e115224a18ed3d3bffaca3a80cfa35a70aeb9f1550", func := "corsned/corsnedlaw28.SpliceBack", spec := "spliceBack", inPlace := ["slices.overlaps[corsned/api.Cond]", "internal/bytealg.Compare"], unfollowed := true, recurses := true, named := ["math/bits.divideError", "math/bits.overflowError"], plainKeys := false, apart := false, narrowed := true }
def SpliceBackUptoSaid : Prop := spliceBackUptoRow.holds Tryz.pinned (OpenSpec.upto spliceBackSpec)

/-- 'corsnedlaw28.SpliceKeeps', WHERE WHAT IT READS IS OF BULK AT MOST 1048576: true; the input reads as it did. -/
def spliceKeepsUptoRow : OpenClaim := { program := "ytcbhhaigilifgaagreat", sum := "08b8d21a2f1735648876e1e115224a18ed3d3bffaca3a80cfa35a70aeb9f1550", func := "corsned/corsnedlaw28.SpliceKeeps", spec := "spliceKeeps", inPlace := ["slices.overlaps[corsned/api.Cond]", "internal/bytealg.Compare"], unfollowed := true, recurses := true, named := ["math/bits.divideError", "math/bits.overflowError"], plainKeys := false, apart := false, narrowed := true }
def SpliceKeepsUptoSaid : Prop := spliceKeepsUptoRow.holds Tryz.pinned (OpenSpec.upto spliceKeepsSpec)

/-- 'corsnedlaw28.SpliceStands', WHERE WHAT IT READS IS OF BULK AT MOST 1048576: true; the input reads as it did. -/
def spliceStandsUptoRow : OpenClaim := { program := "ytcbhhaigilifgaagreat", sum := "08b8d21a2f1735648876e1e115224a18ed3d3bffaca3a80cfa35a70aeb9f1550", func := "corsned/corsnedlaw28.SpliceStands", spec := "spliceStands", inPlace := ["slices.overlaps[corsned/api.Cond]", "internal/bytealg.Compare"], unfollowed := true, recurses := true, named := ["math/bits.divideError", "math/bits.overflowError"], plainKeys := false, apart := false, narrowed := true }
def SpliceStandsUptoSaid : Prop := spliceStandsUptoRow.holds Tryz.pinned (OpenSpec.upto spliceStandsSpec)

/-- 'corsnedlaw28.SpliceClaims', WHERE WHAT IT READS IS OF BULK AT MOST 1048576: true; the input reads as it did. -/
def spliceClaimsUptoRow : OpenClaim := { program := "ytcbhhaigilifgaagreat", sum := "08b8d21a2f1735648876e1e115224a18ed3d3bffaca3a80cfa35a70aeb9f1550", func := "corsned/corsnedlaw28.SpliceClaims", spec := "spliceClaims", inPlace := ["slices.overlaps[corsned/api.Cond]", "internal/bytealg.Compare"], unfollowed := true, recurses := true, named := ["math/bits.divideError", "math/bits.overflowError"], plainKeys := false, apart := false, narrowed := true }
def SpliceClaimsUptoSaid : Prop := spliceClaimsUptoRow.holds Tryz.pinned (OpenSpec.upto spliceClaimsSpec)

end Rows
end Go.Proofs.YtcbhhaigilifgaaGreat
