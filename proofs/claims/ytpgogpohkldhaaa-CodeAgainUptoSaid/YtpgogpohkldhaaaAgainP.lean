/- CodeAgain, where the arguments are of bulk at most 1048576: whatever bytes are read, and whatever kinds of parts: what was read, laid again, is the bytes that are gone; the call returns true and leaves its arguments as they were. -/
import Derived.Test.YtpgogpohkldhaaaA7
import Derived.Test.YtpgogpohkldhaaaWt
namespace Go.Proofs.Ytpgogpohkldhaaa
open Go.Ev Go.ChangeShapes

theorem bulk_one {H : Type} (d : DataW H) : 1 ≤ Rows.uptoBulk d := by
  cases d with
  | lit l => cases l <;> simp [Rows.uptoBulk]
  | nil => simp [Rows.uptoBulk]
  | ptr d => simp [Rows.uptoBulk]
  | slice elems spare => simp [Rows.uptoBulk]
  | agg parts => simp [Rows.uptoBulk]
  | iface t d => simp [Rows.uptoBulk]
  | map entries => simp [Rows.uptoBulk]
  | held h => simp [Rows.uptoBulk]
theorem bulk_length {H : Type} (l : List (DataW H)) : l.length ≤ Rows.uptoBulkAll l := by
  induction l with
  | nil => simp [Rows.uptoBulkAll]
  | cons x r ih => have := bulk_one x; simp only [Rows.uptoBulkAll, List.length_cons]; omega

theorem codeAgain_calls {H : Type} {enc : TypeId × Value → H} (W : World) (base : Nat) (args : Array Value) (ds gs : List (DataW H)) (before : List MemPlace)
    (hval : ∀ (j : Nat) t v, Try.f6.params[j]? = some t → args[j]? = some v → Value.okWide Try.prog W .any base t v) (hW : DataW.Whole enc Try.prog Try.f6.params.toList Rows.codeAgainSpec.vars false W args.toList ds gs before)
    (hk : Rows.uptoSmall H (ds ++ gs) = true) :
    Calls Try.prog 6 args W fun e W' => ∃ v, e = .returned v ∧ Rows.codeAgainSpec.post enc Try.prog Try.f6 false true false false W args v W' := by
  have hb : Rows.uptoBulkAll (ds ++ gs) ≤ 1048576 := of_decide_eq_true hk
  refine law_contract (n := 9) (tb := 4) (by kernel_rfl) (by kernel_rfl) rfl ?_ ?_ W base args ds gs before hval hW ?_
  · intro ds hds
    rw [Try.params6] at hds
    match ds, hds with
    | [a, b], _ => rfl
  · intro t ht
    rw [Try.params6] at ht
    rcases List.mem_cons.1 ht with rfl | ht
    · kernel_rfl
    · rw [List.mem_singleton.1 ht]; kernel_rfl
  · intro xs hxs hrep
    obtain ⟨p, q, hA, _, _, _, _⟩ := hW
    rw [Try.params6] at hxs hA
    match xs, hxs, hrep with
    | [x, y], ⟨h1, h2, _⟩, hrep =>
      obtain ⟨nn, b, rfl, hn, _⟩ := wt_bytes h1
      obtain ⟨mk, ks, rfl, hks⟩ := wt_ints h2
      refine again_con nn b mk ks hn ?_ hks
      obtain ⟨v0, vs0, d0, ds0, p0, q0, ha, rfl, rfl, h0, r0⟩ := trodAll_cons hA
      rw [ha] at hrep
      simp only [List.map_cons, repVs] at hrep
      obtain ⟨v, vs', hv, hr, _⟩ := hrep
      cases hv
      rcases sl_len u22 h0 (σ := sg0 W) (nn := nn) (s := 1) (xs := b.map u8) hr with h | ⟨elems, rest, rfl, h⟩
      · have : b = [] := by simpa using h
        rw [this]; simp
      · rw [List.length_map] at h
        have h3 := bulk_length elems
        simp only [List.cons_append, Rows.uptoBulkAll, Rows.uptoBulk] at hb
        omega

set_option maxRecDepth 100000 in
theorem codeAgain_lifted (os : Os) (started : os.Started) (H : Type) (enc : TypeId × Value → H) (F : Stop.Interp) :
    ReturnsInHanded {} Try.checked os 6 .any ((Rows.OpenSpec.upto Rows.codeAgainSpec).pre6 enc Try.prog Try.f6 Rows.codeAgainUptoRow.domain false) (((Rows.OpenSpec.upto Rows.codeAgainSpec).at F).post enc Try.prog Try.f6 false true false false) := by
  refine returnsInHanded_of_cond (C := Try.checked) (s := Rows.OpenSpec.upto Rows.codeAgainSpec) (k := Rows.uptoSmall) rfl own started (by kernel_rfl) Try.func6
    (OpenSpec.witness (enc := enc) (C := Try.checked) (s := Rows.OpenSpec.upto Rows.codeAgainSpec) (k := Rows.uptoSmall) rfl false ⟨#[], #[.slice none 0 0, .slice none 0 0], []⟩ 8 (by kernel_rfl) (by kernel_rfl) (by kernel_rfl)
      (x := ([.nil, .nil], [], [])) (by kernel_rfl) rfl (by kernel_rfl)) ?_
  intro W base args ds gs before hval hW _ hk _
  exact codeAgain_calls W base args ds gs before hval hW hk

theorem codeAgain_holds : Rows.CodeAgainUptoSaid :=
  OpenClaim.holds_of_cond 6 Try.f6 rfl rfl rfl rfl rfl rfl rfl ⟨rfl, rfl, rfl, rfl, rfl⟩ rfl rfl rfl rfl rfl (by kernel_rfl) Try.func6 (by kernel_rfl)
    (of_decide_eq_true (by kernel_rfl)) (by unfold Func.isWrapper; first | (rw [if_pos (by decide +kernel)]; kernel_rfl) | (rw [if_neg (by decide +kernel)]; exact ⟨rfl, rfl⟩))
    (fun os started H enc _ F => codeAgain_lifted os started H enc F)
#print axioms codeAgain_holds
end Go.Proofs.Ytpgogpohkldhaaa
