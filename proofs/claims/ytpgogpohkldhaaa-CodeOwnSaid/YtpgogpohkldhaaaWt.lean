/- What the arguments of layer 8's statements are, as plain data. -/
import Derived.Test.YtpgogpohkldhaaaMB
import Derived.Test.YtpgogpohkldhaaaBr
import Derived.Test.YtpgogpohkldhaaaRows
import Derived.KernelRfl
set_option linter.unusedVariables false
set_option linter.unusedSimpArgs false
namespace Go.Proofs.Ytpgogpohkldhaaa
open Go.Ev

theorem exists_map {α β : Type} {f : α → β} {R : α → Prop} : ∀ {ys : List β}, (∀ y, y ∈ ys → ∃ x, y = f x ∧ R x) → ∃ l : List α, ys = l.map f ∧ ∀ x, x ∈ l → R x
  | [], _ => ⟨[], rfl, fun x hx => by cases hx⟩
  | y :: ys, h => by
    obtain ⟨x, rfl, hx⟩ := h y (List.mem_cons_self ..)
    obtain ⟨l, rfl, hl⟩ := exists_map (fun z hz => h z (List.mem_cons_of_mem _ hz))
    exact ⟨x :: l, rfl, fun z hz => by
      rcases List.mem_cons.1 hz with rfl | hz
      · exact hx
      · exact hl z hz⟩
theorem u5 : Try.prog.underlying 5 = some (.int .u8) := by kernel_rfl
theorem u3 : Try.prog.underlying 3 = some (.int .i64) := by kernel_rfl
theorem u27 : Try.prog.underlying 27 = some (.int .u64) := by kernel_rfl
theorem u22 : Try.prog.underlying 22 = some (.slice 5) := by kernel_rfl
theorem u37 : Try.prog.underlying 37 = some (.array 32 5) := by kernel_rfl
theorem u33 : Try.prog.underlying 33 = some (.slice 39) := by kernel_rfl
theorem u49 : Try.prog.underlying 49 = some (.slice 3) := by kernel_rfl
def fieldTypes (P : Program) (t : TypeId) : List TypeId := match P.underlying t with
  | some (.struct fs) => fs.toList.map (·.type)
  | _ => []
theorem fieldTypes_of {P : Program} {t : TypeId} {l : List TypeId} (h : fieldTypes P t = l) (hl : l ≠ []) : ∃ fs : Array Field, P.underlying t = some (.struct fs) ∧ fs.toList.map (·.type) = l := by
  unfold fieldTypes at h
  split at h
  · rename_i fs hu; exact ⟨fs, hu, h⟩
  · exact absurd h.symm hl
theorem u39 : ∃ fs : Array Field, Try.prog.underlying 39 = some (.struct fs) ∧ fs.toList.map (·.type) = [3, 3, 27, 22, 37] := fieldTypes_of (by kernel_rfl) (by simp)
theorem wt_u8 {n : Nat} {y : Pl} (h : wtP Try.prog (n + 1) 5 y) : ∃ b : UInt8, y = u8 b ∧ True := by
  unfold wtP at h
  rw [u5] at h
  split at h <;> rename_i e <;> simp only [reduceCtorEq, Option.some.injEq, TypeDesc.int.injEq] at e
  all_goals first
    | exact h.elim
    | skip
  obtain ⟨rfl, h2⟩ := h
  subst e
  rename_i m
  have hb := bounds_u8 h2
  exact ⟨UInt8.ofNat m.toNat, by
    unfold u8
    have : (UInt8.ofNat m.toNat).toNat = m.toNat := by simp; omega
    rw [this]
    congr 1
    omega, trivial⟩
theorem wt_i64 {n : Nat} {y : Pl} (h : wtP Try.prog (n + 1) 3 y) : ∃ m : Int, y = .int .i64 m ∧ (-9223372036854775808 ≤ m ∧ m ≤ 9223372036854775807) := by
  unfold wtP at h
  rw [u3] at h
  split at h <;> rename_i e <;> simp only [reduceCtorEq, Option.some.injEq, TypeDesc.int.injEq] at e
  all_goals first
    | exact h.elim
    | skip
  obtain ⟨rfl, h2⟩ := h
  subst e
  exact ⟨_, rfl, bounds_i64 h2⟩
theorem wt_u64 {n : Nat} {y : Pl} (h : wtP Try.prog (n + 1) 27 y) : ∃ m : Nat, y = .int .u64 (m : Int) ∧ m < 18446744073709551616 := by
  unfold wtP at h
  rw [u27] at h
  split at h <;> rename_i e <;> simp only [reduceCtorEq, Option.some.injEq, TypeDesc.int.injEq] at e
  all_goals first
    | exact h.elim
    | skip
  obtain ⟨rfl, h2⟩ := h
  subst e
  rename_i m
  have hb := bounds_u64 h2
  exact ⟨m.toNat, by congr 1; omega, by omega⟩
theorem wt_bytes {n : Nat} {y : Pl} (h : wtP Try.prog (n + 2) 22 y) : ∃ (nn : Bool) (b : List UInt8), y = bytesP nn b ∧ (nn = false → b = []) ∧ b.length ≤ 9223372036854775807 := by
  unfold wtP at h
  rw [u22] at h
  split at h <;> rename_i e <;> simp only [reduceCtorEq, Option.some.injEq, TypeDesc.slice.injEq] at e
  all_goals first
    | exact h.elim
    | skip
  subst e
  obtain ⟨rfl, h2, h3, h4⟩ := h
  rename_i nn _
  obtain ⟨l, rfl, _⟩ := exists_map fun z hz => wt_u8 (h4 z hz)
  refine ⟨nn, l, ?_, fun e => by simpa using h2 e, by simpa [maxLen] using h3⟩
  unfold bytesP
  have : Try.prog.cellsOf 5 = 1 := by kernel_rfl
  rw [this]
theorem wt_hash {n : Nat} {y : Pl} (h : wtP Try.prog (n + 2) 37 y) : ∃ b : List UInt8, y = hashP b ∧ b.length = 32 := by
  unfold wtP at h
  rw [u37] at h
  split at h <;> rename_i e <;> simp only [reduceCtorEq, Option.some.injEq, TypeDesc.array.injEq] at e
  all_goals first
    | exact h.elim
    | skip
  obtain ⟨e1, e2⟩ := e
  subst e1; subst e2
  obtain ⟨rfl, rfl, h3, h4⟩ := h
  obtain ⟨l, rfl, _⟩ := exists_map fun z hz => wt_u8 (h4 z hz)
  refine ⟨l, ?_, by simpa using h3⟩
  unfold hashP
  have : Try.prog.cellsOf 5 = 1 := by kernel_rfl
  rw [this]
theorem wt_part {n : Nat} {y : Pl} (h : wtP Try.prog (n + 3) 39 y) : ∃ p : Part, y = partP p ∧ p.Ok := by
  obtain ⟨fs, hu, hf⟩ := u39
  unfold wtP at h
  rw [hu] at h
  split at h <;> rename_i e <;> simp only [reduceCtorEq, Option.some.injEq, TypeDesc.struct.injEq] at e
  all_goals first
    | exact h.elim
    | skip
  subst e
  rename_i xs
  have key : ∀ (gs : List Field) (ts : List TypeId) (ys : List Pl), gs.map (·.type) = ts → wtFs (wtP Try.prog (n + 2)) gs ys → wtPs Try.prog (n + 2) ts ys := by
    intro gs
    induction gs with
    | nil => intro ts ys h1 h2; subst h1; cases ys with
      | nil => trivial
      | cons y r => exact h2.elim
    | cons g gs ih => intro ts ys h1 h2; subst h1; cases ys with
      | nil => exact h2.elim
      | cons y r => exact ⟨h2.1, ih _ _ rfl h2.2⟩
  have h' := key _ _ _ hf h
  match xs, h' with
  | [a, b, c, d, e], ⟨ha, hb, hc, hd, he, _⟩ =>
    obtain ⟨a, rfl, a1, a2⟩ := wt_i64 ha
    obtain ⟨b, rfl, b1, b2⟩ := wt_i64 hb
    obtain ⟨c, rfl, c1⟩ := wt_u64 hc
    obtain ⟨nn, d, rfl, d1, d2⟩ := wt_bytes hd
    obtain ⟨e, rfl, e1⟩ := wt_hash he
    exact ⟨⟨a, b, c, nn, d, e⟩, rfl, ⟨a1, a2, b1, b2, c1, d1, d2, e1⟩⟩
theorem wt_parts {n : Nat} {y : Pl} (h : wtP Try.prog (n + 4) 33 y) : ∃ (nn : Bool) (l : List Part), y = partsP nn l ∧ ∀ p, p ∈ l → p.Ok := by
  unfold wtP at h
  rw [u33] at h
  split at h <;> rename_i e <;> simp only [reduceCtorEq, Option.some.injEq, TypeDesc.slice.injEq] at e
  all_goals first
    | exact h.elim
    | skip
  subst e
  obtain ⟨rfl, h2, h3, h4⟩ := h
  rename_i nn _
  obtain ⟨l, rfl, hl⟩ := exists_map fun z hz => wt_part (h4 z hz)
  refine ⟨nn, l, ?_, hl⟩
  unfold partsP
  have : Try.prog.cellsOf 39 = 36 := by kernel_rfl
  rw [this]
theorem wt_ints {n : Nat} {y : Pl} (h : wtP Try.prog (n + 2) 49 y) : ∃ (nn : Bool) (l : List Int), y = intsP nn l ∧ ∀ d, d ∈ l → -9223372036854775808 ≤ d ∧ d ≤ 9223372036854775807 := by
  unfold wtP at h
  rw [u49] at h
  split at h <;> rename_i e <;> simp only [reduceCtorEq, Option.some.injEq, TypeDesc.slice.injEq] at e
  all_goals first
    | exact h.elim
    | skip
  subst e
  obtain ⟨rfl, h2, h3, h4⟩ := h
  rename_i nn _
  obtain ⟨l, rfl, hl⟩ := exists_map fun z hz => wt_i64 (h4 z hz)
  refine ⟨nn, l, ?_, hl⟩
  unfold intsP
  have : Try.prog.cellsOf 3 = 1 := by kernel_rfl
  rw [this]
theorem own : ownKnob Try.prog.godebug = none := by kernel_rfl
end Go.Proofs.Ytpgogpohkldhaaa
