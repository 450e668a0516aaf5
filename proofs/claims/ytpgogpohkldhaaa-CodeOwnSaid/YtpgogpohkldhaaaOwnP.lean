/- CodeOwn: whatever bytes there are: what is laid, what is read and what is handed in is each its own memory: what is done to the one is not seen in the others; the call returns true and leaves its argument as it was. No condition beyond the row's own. -/
import Derived.Test.YtpgogpohkldhaaaA8
import Derived.Test.YtpgogpohkldhaaaWt
namespace Go.Proofs.Ytpgogpohkldhaaa
open Go.Ev

theorem codeOwn_calls {H : Type} {enc : TypeId × Value → H} (W : World) (base : Nat) (args : Array Value) (ds gs : List (DataW H)) (before : List MemPlace)
    (hval : ∀ (j : Nat) t v, Try.f3.params[j]? = some t → args[j]? = some v → Value.okWide Try.prog W .any base t v) (hW : DataW.Whole enc Try.prog Try.f3.params.toList Rows.codeOwnSpec.vars false W args.toList ds gs before) :
    Calls Try.prog 3 args W fun e W' => ∃ v, e = .returned v ∧ Rows.codeOwnSpec.post enc Try.prog Try.f3 false true false false W args v W' := by
  refine law_contract (n := 9) (tb := 4) (by kernel_rfl) (by kernel_rfl) rfl ?_ ?_ W base args ds gs before hval hW ?_
  · intro ds hds
    rw [Try.params3] at hds
    match ds, hds with
    | [a], _ => rfl
  · intro t ht
    rw [Try.params3] at ht
    rw [List.mem_singleton.1 ht]; kernel_rfl
  · intro xs hxs _
    rw [Try.params3] at hxs
    match xs, hxs with
    | [x], ⟨h1, _⟩ =>
      obtain ⟨nn, b, rfl, hn, _⟩ := wt_bytes h1
      exact own_con nn b hn

set_option maxRecDepth 100000 in
theorem codeOwn_lifted (os : Os) (started : os.Started) (H : Type) (enc : TypeId × Value → H) :
    ReturnsInHanded {} Try.checked os 3 .any (Rows.codeOwnSpec.pre6 enc Try.prog Try.f3 Rows.codeOwnRow.domain false) (Rows.codeOwnSpec.post enc Try.prog Try.f3 false true false false) := by
  refine returnsInHanded_of_change (C := Try.checked) own started (by kernel_rfl) Try.func3
    (ChangeSpec.witness6 (enc := enc) (C := Try.checked) false ⟨#[], #[.slice none 0 0], []⟩ 8 (by kernel_rfl) (by kernel_rfl) (by kernel_rfl) (by kernel_rfl)) ?_
  intro W base args ds gs before hval hW _ _
  exact codeOwn_calls W base args ds gs before hval hW

theorem codeOwn_holds : Rows.CodeOwnSaid :=
  OpenClaim.holds_of_wide 3 Try.f3 rfl rfl rfl rfl rfl rfl rfl ⟨rfl, rfl, rfl, rfl, rfl⟩ rfl rfl rfl rfl rfl (by kernel_rfl) Try.func3 (by kernel_rfl)
    (of_decide_eq_true (by kernel_rfl)) (by unfold Func.isWrapper; first | (rw [if_pos (by decide +kernel)]; kernel_rfl) | (rw [if_neg (by decide +kernel)]; exact ⟨rfl, rfl⟩))
    (fun os started H enc _ => codeOwn_lifted os started H enc)
#print axioms codeOwn_holds
end Go.Proofs.Ytpgogpohkldhaaa
