/- slices.Grow of nil, for bytes: what it gives. -/
import Derived.Test.YtpgogpohkldhaaaEvX
import Derived.Test.YtpgogpohkldhaaaProg
import Derived.Lib.Walk
import Derived.Lib.SliceRun
import Derived.Lib.AppendZerosOnto
set_option linter.unusedVariables false
set_option linter.unusedSimpArgs false
namespace Go.Proofs.Ytpgogpohkldhaaa
open Go.Ev Go.RowKit Go.Lib

theorem grow_walk0 (w : World) : Calls Try.prog 45 #[.slice none 0 0, .int .i64 0] w fun e w' => e = .returned (.slice none 0 0) ∧ w' = w := by
  go_enter Try.func45, Try.ntmps45
  go_wp2
  go_ret
  exact ⟨rfl, rfl⟩

theorem grow_walk (n : Nat) (w : World) (h0 : 0 < n) (hn : n ≤ bytesBound) : Calls Try.prog 45 #[.slice none 0 0, .int .i64 n] w fun e w' => e = .returned (.slice (some ⟨w.heap.size, 0, none⟩) 0 (grownCap w n 0 5)) ∧
    w' = w.drew.alloc (.cells (Builtin.zeroCells #[.int .u8 0] n ++ Builtin.zeroCells #[.int .u8 0] (grownCap w n 0 5 - n)) 5) := by
  have hb : n ≤ 140737488355328 := hn
  have h1 : ¬ ((n : Int) < 0) := by omega
  have h3 : wrap64 ((n : Int) - ((0 : Int) - (0 : Int))) = (n : Int) := by unfold wrap64; omega
  have h3' : wrap64 ((n : Int) - 0) = (n : Int) := by unfold wrap64; omega
  have h3'' : wrap64 (n : Int) = (n : Int) := by unfold wrap64; omega
  have h4 : (n : Int) > 0 := by omega
  have hi : ∃ i, Try.prog.info? 5 = some i ∧ i.zero = some (.int .u8 0) ∧ i.size = 1 ∧ i.bytes = 1 := by
    have h : (Try.prog.info? 5).map (fun i => (i.zero, i.size, i.bytes)) = some (some (.int .u8 0), 1, 1) := by kernel_rfl
    obtain ⟨i, h1, h2⟩ := Option.map_eq_some_iff.1 h
    simp only [Prod.mk.injEq] at h2
    exact ⟨i, h1, h2.1, h2.2.1, h2.2.2⟩
  obtain ⟨i, hi1, hi2, hi3, hi4⟩ := hi
  have hrz : ∀ ty, (Builtin.append_ #[22, 3] ty #[.slice none 0 0, .int .i64 n]).run Try.prog w =
      .ok (.slice (some ⟨w.heap.size, 0, none⟩) n (grownCap w n 0 5)) (w.drew.alloc (.cells (Builtin.zeroCells #[.int .u8 0] n ++ Builtin.zeroCells #[.int .u8 0] (grownCap w n 0 5 - n)) 5)) := fun ty => by
    have h := Lib.run_append_grow_zeros (P := Try.prog) w 22 3 ty 5 i (.int .u8 0) .i64 .i64 Try.underlying22 Try.underlying3 hi1 hi2 none 0 0 [] (by rw [hi3]; simp [Builtin.firstCells]) n h0 (by omega) (by omega) (by omega)
      (by rw [hi4]; omega) (by rw [Nat.zero_add]; exact growslice_fits h0 (by rw [hi4]; omega))
    simpa [Value.cells] using h
  obtain ⟨G, hG⟩ : ∃ G, G = grownCap w n 0 5 := ⟨_, rfl⟩
  have hGn := grownCap_ge w n 0 5
  have hG63 := grownCap_le_maxLen w n 0 5 (by unfold maxLen; omega)
  unfold maxLen at hG63
  rw [← hG] at hrz hGn hG63 ⊢
  clear hG
  go_enter Try.func45, Try.ntmps45
  go_wp2_with (at_builtin; refine Lib.wpList_append_run _ rfl _ _ _ _ rfl _ _ rfl rfl _ _ (hrz _) ?_)
  all_goals (go_ret; exact ⟨rfl, rfl⟩)

theorem grow_con (n : Nat) (hn : n ≤ bytesBound) : Con Try.prog 45 [.p (.sl false 1 []), .p (.int .i64 (n : Int))] [] (.own 0 (decide (0 < n)) 1 []) [.log 1 5 []] := by
  intro σ vs ok hH hvs
  simp only [repVs] at hvs
  obtain ⟨v, _, rfl, hv, v2, _, rfl, hv2, rfl⟩ := hvs
  obtain rfl := nilsl hv
  obtain rfl : v2 = .int .i64 n := by
    have := hv2.2 rfl
    simpa [repD, repC] using this
  have hm : σ.m = [] := List.eq_nil_of_length_eq_zero (by rw [ok.len, hH]; rfl)
  rcases Nat.eq_zero_or_pos n with rfl | h0
  · refine (grow_walk0 σ.w).mono fun e w' ⟨he, hw⟩ => ?_
    subst he; subst hw
    obtain ⟨to, ok'⟩ := push_to (σ' := { σ with m := σ.m ++ [none], H := σ.H ++ [.log 1 5 []] }) ok rfl rfl rfl rfl (World.grownBy.refl σ.w none) (.inl rfl) (fun _ => .inl ⟨rfl, rfl⟩)
    refine ⟨_, { σ with m := σ.m ++ [none], H := σ.H ++ [.log 1 5 []] }, rfl, rfl, by simp [hH], to, ok', ?_⟩
    rw [repDV_one rfl]
    simp only [repD]
    exact ⟨fun _ hx => (by cases hx), none, 0, rfl, Nat.le_refl _, by simp [maxLen], rfl, fun _ => rfl, fun h => absurd rfl h, 5, [], by simp [hH], Nat.le_refl _, fun _ => .inl ⟨by simp [hm], rfl, rfl⟩⟩
  · refine (grow_walk n σ.w h0 hn).mono fun e w' ⟨he, hw⟩ => ?_
    subst he; subst hw
    have hge := grownCap_ge σ.w n 0 5
    have hcm := grownCap_le_maxLen σ.w n 0 5 (by have : n ≤ 140737488355328 := hn; unfold maxLen; omega)
    have hsz : (Builtin.zeroCells #[.int .u8 0] n ++ Builtin.zeroCells #[.int .u8 0] (grownCap σ.w n 0 5 - n) : Array Value).size = grownCap σ.w n 0 5 * 1 := by
      simp only [Array.size_append, size_zeroCells]
      simp
      omega
    let cs : Array Value := Builtin.zeroCells #[.int .u8 0] n ++ Builtin.zeroCells #[.int .u8 0] (grownCap σ.w n 0 5 - n)
    let σ' : Sg := { σ with m := σ.m ++ [some σ.w.heap.size], H := σ.H ++ [.log 1 5 []], w := σ.w.drew.alloc (.cells cs 5) }
    have hblk : σ'.w.heap[σ.w.heap.size]? = some (.cells cs 5 (0, 0)) := heap_alloc_new σ.w.drew _
    obtain ⟨to, ok'⟩ := push_to (σ' := σ') ok rfl rfl rfl rfl (grown_drew_alloc σ.w (.cells cs 5) none) (.inr ⟨_, rfl, Nat.le_refl _, by simp [σ']⟩)
      (fun leaf => .inr ⟨σ.w.heap.size, _, grownCap σ.w n 0 5, rfl, hblk, hsz, Nat.zero_le _, hcm, fun _ hx => (by cases hx), by simp [repCs]⟩)
    refine ⟨_, σ', rfl, rfl, by simp [σ', hH], to, ok', ?_⟩
    have hd : decide (0 < n) = true := by simpa using h0
    rw [hd, repDV_one rfl]
    simp only [repD]
    exact ⟨fun _ hx => (by cases hx), _, _, rfl, Nat.zero_le _, hcm, rfl, fun h => (by cases h), fun h => absurd rfl h, 5, [], by simp [σ', hH], Nat.le_refl _, fun _ => .inr ⟨_, _, by simp [σ', hm], rfl, hblk, hsz⟩⟩
end Go.Proofs.Ytpgogpohkldhaaa
