/- TowerKeeps: whatever a tower's price and room are, and whatever packets it is let hold: no more is held than there is room for, or was paid for; what is refused changes nothing; the call returns true and leaves its arguments as they were. No condition beyond the row's own. -/
import Derived.Test.YtehgcchjaamddaaGreatKf
set_option linter.unusedVariables false
set_option linter.unusedSimpArgs false
namespace Go.Proofs.YtehgcchjaamddaaGreat
open Go.Ev
theorem own : ownKnob Tryz.prog.godebug = none := by kernel_rfl
theorem mem_Mem {α : Type} {x : α} {l : List α} (h : x ∈ l) : List.Mem x l := h
theorem keeps_nonce {e : Corsnedlaw42Act} (h : Ty.Wf yCorsnedlaw42Act e) : e.2.2.2.2.2.1.length ≤ 10000 := by
  have h1 : e.2.2.2.2.2.1.length = 32 := h.2.2.2.2.2.1.1
  omega
theorem keeps_all {l : List Corsnedlaw42Act} (h : Ty.Wf (.sl yCorsnedlaw42Act) l) : l.length ≤ 9223372036854775807 ∧ ∀ e, e ∈ l → e.2.2.2.2.2.1.length ≤ 10000 :=
  ⟨h.1, fun e he => keeps_nonce (h.2 e (mem_Mem he))⟩
theorem keeps_true (v : Ty.dens [.int .i64, .int .i64, .sl yCorsnedlaw42Act]) (hv : Ty.Wfs [.int .i64, .int .i64, .sl yCorsnedlaw42Act] v) : corsnedlaw42_TowerKeepsM fuel v.1 v.2.1 v.2.2 = some true := by
  obtain ⟨a, b, c⟩ := v
  obtain ⟨h1, h2⟩ := keeps_all (l := c) hv.2.2
  exact keeps_yes h1 h2
set_option maxRecDepth 100000 in
theorem towerKeeps_calls {H : Type} {enc : TypeId × Value → H} (W : World) (base : Nat) (args : Array Value) (ds gs : List (DataW H)) (before : List MemPlace)
    (hval : ∀ (j : Nat) t v, Tryz.f5.params[j]? = some t → args[j]? = some v → Value.okWide Tryz.prog W .any base t v) (hW : DataW.Whole enc Tryz.prog Tryz.f5.params.toList Rows.towerKeepsSpec.vars false W args.toList ds gs before) :
    Calls Tryz.prog 5 args W fun e W' => ∃ v, e = .returned v ∧ Rows.towerKeepsSpec.post enc Tryz.prog Tryz.f5 false true false false W args v W' := by
  refine law_contract (n := 20) (tb := 4) (by kernel_rfl) (by kernel_rfl) rfl ?_ ?_ W base args ds gs before hval hW ?_
  · intro ds hds
    rw [Tryz.params5] at hds
    match ds, hds with
    | [a, b, c], _ => rfl
  · rw [Tryz.params5]
    exact List.all_eq_true.1 (by kernel_rfl : List.all [3, 3, 22] (plainTy Tryz.prog 20) = true)
  · intro xs hxs _
    rw [Tryz.params5] at hxs
    obtain ⟨v, hv, rfl⟩ := wtps_ty (m := 60) (Ts := [.int .i64, .int .i64, .sl yCorsnedlaw42Act]) (by kernel_rfl) hxs
    exact law_con corsnedlaw42_TowerKeeps_ok (keeps_true v hv)
set_option maxRecDepth 100000 in
theorem towerKeeps_lifted (os : Os) (started : os.Started) (H : Type) (enc : TypeId × Value → H) :
    ReturnsInHanded {} Tryz.checked os 5 .any (Rows.towerKeepsSpec.pre6 enc Tryz.prog Tryz.f5 Rows.towerKeepsRow.domain false) (Rows.towerKeepsSpec.post enc Tryz.prog Tryz.f5 false true false false) := by
  refine returnsInHanded_of_change (C := Tryz.checked) own started (by kernel_rfl) Tryz.func5
    (ChangeSpec.witness6 (enc := enc) (C := Tryz.checked) false ⟨#[], #[.int .i64 0, .int .i64 0, .slice none 0 0], []⟩ 8 (by kernel_rfl) (by kernel_rfl) (by kernel_rfl) (by kernel_rfl)) ?_
  intro W base args ds gs before hval hW _ _
  exact towerKeeps_calls W base args ds gs before hval hW
theorem towerKeeps_holds : Rows.TowerKeepsSaid :=
  OpenClaim.holds_of_wide 5 Tryz.f5 rfl rfl rfl rfl rfl rfl rfl ⟨rfl, rfl, rfl, rfl, rfl⟩ rfl rfl rfl rfl rfl (by kernel_rfl) Tryz.func5 (by kernel_rfl)
    (of_decide_eq_true (by kernel_rfl)) (by unfold Func.isWrapper; first | (rw [if_pos (by decide +kernel)]; kernel_rfl) | (rw [if_neg (by decide +kernel)]; exact ⟨rfl, rfl⟩))
    (fun os started H enc _ => towerKeeps_lifted os started H enc)
#print axioms towerKeeps_holds
end Go.Proofs.YtehgcchjaamddaaGreat
