/- CodeBack: whatever parts are laid, and whatever bytes stand behind them: each part is read as it was laid, and the bytes behind are left; the call returns true and leaves its arguments as they were. No condition beyond the row's own. -/
import Derived.Test.YtpgogpohkldhaaaA6
import Derived.Test.YtpgogpohkldhaaaWt
namespace Go.Proofs.Ytpgogpohkldhaaa
open Go.Ev

theorem codeBack_calls {H : Type} {enc : TypeId × Value → H} (W : World) (base : Nat) (args : Array Value) (ds gs : List (DataW H)) (before : List MemPlace)
    (hval : ∀ (j : Nat) t v, Try.f5.params[j]? = some t → args[j]? = some v → Value.okWide Try.prog W .any base t v) (hW : DataW.Whole enc Try.prog Try.f5.params.toList Rows.codeBackSpec.vars false W args.toList ds gs before) :
    Calls Try.prog 5 args W fun e W' => ∃ v, e = .returned v ∧ Rows.codeBackSpec.post enc Try.prog Try.f5 false true false false W args v W' := by
  refine law_contract (n := 9) (tb := 4) (by kernel_rfl) (by kernel_rfl) rfl ?_ ?_ W base args ds gs before hval hW ?_
  · intro ds hds
    rw [Try.params5] at hds
    match ds, hds with
    | [a, b], _ => rfl
  · intro t ht
    rw [Try.params5] at ht
    rcases List.mem_cons.1 ht with rfl | ht
    · kernel_rfl
    · rw [List.mem_singleton.1 ht]; kernel_rfl
  · intro xs hxs _
    rw [Try.params5] at hxs
    match xs, hxs with
    | [x, y], ⟨h1, h2, _⟩ =>
      obtain ⟨ml, l, rfl, hl⟩ := wt_parts h1
      obtain ⟨mm, m, rfl, _, _⟩ := wt_bytes h2
      exact back_con ml l mm m hl

set_option maxRecDepth 100000 in
theorem codeBack_lifted (os : Os) (started : os.Started) (H : Type) (enc : TypeId × Value → H) :
    ReturnsInHanded {} Try.checked os 5 .any (Rows.codeBackSpec.pre6 enc Try.prog Try.f5 Rows.codeBackRow.domain false) (Rows.codeBackSpec.post enc Try.prog Try.f5 false true false false) := by
  refine returnsInHanded_of_change (C := Try.checked) own started (by kernel_rfl) Try.func5
    (ChangeSpec.witness6 (enc := enc) (C := Try.checked) false ⟨#[], #[.slice none 0 0, .slice none 0 0], []⟩ 8 (by kernel_rfl) (by kernel_rfl) (by kernel_rfl) (by kernel_rfl)) ?_
  intro W base args ds gs before hval hW _ _
  exact codeBack_calls W base args ds gs before hval hW

theorem codeBack_holds : Rows.CodeBackSaid :=
  OpenClaim.holds_of_wide 5 Try.f5 rfl rfl rfl rfl rfl rfl rfl ⟨rfl, rfl, rfl, rfl, rfl⟩ rfl rfl rfl rfl rfl (by kernel_rfl) Try.func5 (by kernel_rfl)
    (of_decide_eq_true (by kernel_rfl)) (by unfold Func.isWrapper; first | (rw [if_pos (by decide +kernel)]; kernel_rfl) | (rw [if_neg (by decide +kernel)]; exact ⟨rfl, rfl⟩))
    (fun os started H enc _ => codeBack_lifted os started H enc)
#print axioms codeBack_holds
end Go.Proofs.Ytpgogpohkldhaaa
