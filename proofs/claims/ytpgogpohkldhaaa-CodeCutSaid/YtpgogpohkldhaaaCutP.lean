/- CodeCut: whatever parts are laid, and wherever the bytes are cut off: something can not be read, and the reader that has failed tells nothing any more; the call returns true and leaves its arguments as they were. No condition beyond the row's own. -/
import Derived.Test.YtpgogpohkldhaaaA6
import Derived.Test.YtpgogpohkldhaaaWt
namespace Go.Proofs.Ytpgogpohkldhaaa
open Go.Ev

theorem codeCut_calls {H : Type} {enc : TypeId × Value → H} (W : World) (base : Nat) (args : Array Value) (ds gs : List (DataW H)) (before : List MemPlace)
    (hval : ∀ (j : Nat) t v, Try.f7.params[j]? = some t → args[j]? = some v → Value.okWide Try.prog W .any base t v) (hW : DataW.Whole enc Try.prog Try.f7.params.toList Rows.codeCutSpec.vars false W args.toList ds gs before) :
    Calls Try.prog 7 args W fun e W' => ∃ v, e = .returned v ∧ Rows.codeCutSpec.post enc Try.prog Try.f7 false true false false W args v W' := by
  refine law_contract (n := 9) (tb := 4) (by kernel_rfl) (by kernel_rfl) rfl ?_ ?_ W base args ds gs before hval hW ?_
  · intro ds hds
    rw [Try.params7] at hds
    match ds, hds with
    | [a, b], _ => rfl
  · intro t ht
    rw [Try.params7] at ht
    rcases List.mem_cons.1 ht with rfl | ht
    · kernel_rfl
    · rw [List.mem_singleton.1 ht]; kernel_rfl
  · intro xs hxs _
    rw [Try.params7] at hxs
    match xs, hxs with
    | [x, y], ⟨h1, h2, _⟩ =>
      obtain ⟨ml, l, rfl, hl⟩ := wt_parts h1
      obtain ⟨t, rfl, _⟩ := wt_i64 h2
      exact cut_con ml l t hl

set_option maxRecDepth 100000 in
theorem codeCut_lifted (os : Os) (started : os.Started) (H : Type) (enc : TypeId × Value → H) :
    ReturnsInHanded {} Try.checked os 7 .any (Rows.codeCutSpec.pre6 enc Try.prog Try.f7 Rows.codeCutRow.domain false) (Rows.codeCutSpec.post enc Try.prog Try.f7 false true false false) := by
  refine returnsInHanded_of_change (C := Try.checked) own started (by kernel_rfl) Try.func7
    (ChangeSpec.witness6 (enc := enc) (C := Try.checked) false ⟨#[], #[.slice none 0 0, .int .i64 0], []⟩ 8 (by kernel_rfl) (by kernel_rfl) (by kernel_rfl) (by kernel_rfl)) ?_
  intro W base args ds gs before hval hW _ _
  exact codeCut_calls W base args ds gs before hval hW

theorem codeCut_holds : Rows.CodeCutSaid :=
  OpenClaim.holds_of_wide 7 Try.f7 rfl rfl rfl rfl rfl rfl rfl ⟨rfl, rfl, rfl, rfl, rfl⟩ rfl rfl rfl rfl rfl (by kernel_rfl) Try.func7 (by kernel_rfl)
    (of_decide_eq_true (by kernel_rfl)) (by unfold Func.isWrapper; first | (rw [if_pos (by decide +kernel)]; kernel_rfl) | (rw [if_neg (by decide +kernel)]; exact ⟨rfl, rfl⟩))
    (fun os started H enc _ => codeCut_lifted os started H enc)
#print axioms codeCut_holds
end Go.Proofs.Ytpgogpohkldhaaa
