/- CodeTells: whatever bytes there are, and whatever parts: what is laid behind the bytes, and what is read of them step by step, is what the document says; the call returns true and leaves its arguments as they were. No condition beyond the row's own. -/
import Derived.Test.YtpgogpohkldhaaaA5
import Derived.Test.YtpgogpohkldhaaaWt
set_option linter.unusedVariables false
set_option linter.unusedSimpArgs false
namespace Go.Proofs.Ytpgogpohkldhaaa
open Go.Ev

theorem codeTells_calls {H : Type} {enc : TypeId × Value → H} (W : World) (base : Nat) (args : Array Value) (ds gs : List (DataW H)) (before : List MemPlace)
    (hval : ∀ (j : Nat) t v, Try.f4.params[j]? = some t → args[j]? = some v → Value.okWide Try.prog W .any base t v) (hW : DataW.Whole enc Try.prog Try.f4.params.toList Rows.codeTellsSpec.vars false W args.toList ds gs before) :
    Calls Try.prog 4 args W fun e W' => ∃ v, e = .returned v ∧ Rows.codeTellsSpec.post enc Try.prog Try.f4 false true false false W args v W' := by
  refine law_contract (n := 9) (tb := 4) (by kernel_rfl) (by kernel_rfl) rfl ?_ ?_ W base args ds gs before hval hW ?_
  · intro ds hds
    rw [Try.params4] at hds
    match ds, hds with
    | [a, b], _ => rfl
  · intro t ht
    rw [Try.params4] at ht
    rcases List.mem_cons.1 ht with rfl | ht
    · kernel_rfl
    · rw [List.mem_singleton.1 ht]; kernel_rfl
  · intro xs hxs _
    rw [Try.params4] at hxs
    match xs, hxs with
    | [x, y], ⟨h1, h2, _⟩ =>
      obtain ⟨nn, b, rfl, hn, _⟩ := wt_bytes h1
      obtain ⟨ml, l, rfl, hl⟩ := wt_parts h2
      exact tells_con nn b ml l hn hl

set_option maxRecDepth 100000 in
theorem codeTells_lifted (os : Os) (started : os.Started) (H : Type) (enc : TypeId × Value → H) :
    ReturnsInHanded {} Try.checked os 4 .any (Rows.codeTellsSpec.pre6 enc Try.prog Try.f4 Rows.codeTellsRow.domain false) (Rows.codeTellsSpec.post enc Try.prog Try.f4 false true false false) := by
  refine returnsInHanded_of_change (C := Try.checked) own started (by kernel_rfl) Try.func4
    (ChangeSpec.witness6 (enc := enc) (C := Try.checked) false ⟨#[], #[.slice none 0 0, .slice none 0 0], []⟩ 8 (by kernel_rfl) (by kernel_rfl) (by kernel_rfl) (by kernel_rfl)) ?_
  intro W base args ds gs before hval hW _ _
  exact codeTells_calls W base args ds gs before hval hW

theorem codeTells_holds : Rows.CodeTellsSaid :=
  OpenClaim.holds_of_wide 4 Try.f4 rfl rfl rfl rfl rfl rfl rfl ⟨rfl, rfl, rfl, rfl, rfl⟩ rfl rfl rfl rfl rfl (by kernel_rfl) Try.func4 (by kernel_rfl)
    (of_decide_eq_true (by kernel_rfl)) (by unfold Func.isWrapper; first | (rw [if_pos (by decide +kernel)]; kernel_rfl) | (rw [if_neg (by decide +kernel)]; exact ⟨rfl, rfl⟩))
    (fun os started H enc _ => codeTells_lifted os started H enc)
#print axioms codeTells_holds
end Go.Proofs.Ytpgogpohkldhaaa
