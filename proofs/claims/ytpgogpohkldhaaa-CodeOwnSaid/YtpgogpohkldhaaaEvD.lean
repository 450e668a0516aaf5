/- The evaluator, part D: why it is right: values, operands, constants. -/
import Derived.Test.YtpgogpohkldhaaaEvC
set_option linter.unusedVariables false
set_option linter.unusedSimpArgs false
namespace Go.Ev

section
variable {σ : Sg} {v : Value}
theorem repDV_int {k : IntKind} {n : Int} (h : repDV σ (.p (.int k n)) v) : v = .int k n := by simpa [repDV, Dv.isAgg, Pl.isAgg, repD, repC] using h
theorem repDV_bool {b : Bool} (h : repDV σ (.p (.bool b)) v) : v = .bool b := by simpa [repDV, Dv.isAgg, Pl.isAgg, repD, repC] using h
theorem repDV_str {b : ByteArray} (h : repDV σ (.p (.str b)) v) : v = .string b := by simpa [repDV, Dv.isAgg, Pl.isAgg, repD, repC] using h
theorem repDV_ptr0 (h : repDV σ (.p .ptr0) v) : v = .pointer none := by simpa [repDV, Dv.isAgg, Pl.isAgg, repD, repC] using h
theorem repDV_fn0 (h : repDV σ (.p .fn0) v) : v = .nilFunc := by simpa [repDV, Dv.isAgg, Pl.isAgg, repD, repC] using h
theorem repDV_if0 (h : repDV σ (.p .if0) v) : v = .nilIface := by simpa [repDV, Dv.isAgg, Pl.isAgg, repD, repC] using h
theorem repDV_int_mk (k : IntKind) (n : Int) : repDV σ (.p (.int k n)) (.int k n) := by simp [repDV, Dv.isAgg, Pl.isAgg, repD, repC]
theorem repDV_bool_mk (b : Bool) : repDV σ (.p (.bool b)) (.bool b) := by simp [repDV, Dv.isAgg, Pl.isAgg, repD, repC]
theorem repDV_str_mk (b : ByteArray) : repDV σ (.p (.str b)) (.string b) := by simp [repDV, Dv.isAgg, Pl.isAgg, repD, repC]
theorem repDV_junk : repDV σ .junk v := by simp [repDV, Dv.isAgg, repD]

theorem repDV_agg {d : Dv} (ha : d.isAgg = true) : repDV σ d v ↔ ∃ cs : Array Value, v = .agg cs ∧ repD σ d cs.toList := by
  simp [repDV, ha]
theorem repDV_one {d : Dv} (ha : d.isAgg = false) : repDV σ d v ↔ repD σ d [v] := by
  simp [repDV, ha]

theorem repDV_sl {nn : Bool} {s : Nat} {xs : List Pl} (h : repDV σ (.p (.sl nn s xs)) v) :
    allSz s xs ∧ ∃ A c, v = .slice A xs.length c ∧ xs.length ≤ c ∧ c ≤ maxLen ∧ A.isSome = nn ∧ (nn = false → c = 0) ∧
      (xs ≠ [] → ∃ b o us, A = some ⟨b, o, none⟩ ∧ repCs σ.w σ.stab xs us ∧ Cells σ.w σ.stab b o us) := by
  rw [repDV_one (by rfl)] at h
  simpa [repD, repC] using h
theorem repDV_sl_mk {nn : Bool} {s : Nat} {xs : List Pl} {A : Option Addr} {c : Nat} (h1 : allSz s xs) (h2 : xs.length ≤ c) (h3 : c ≤ maxLen) (h4 : A.isSome = nn) (h5 : nn = false → c = 0)
    (h6 : xs ≠ [] → ∃ b o us, A = some ⟨b, o, none⟩ ∧ repCs σ.w σ.stab xs us ∧ Cells σ.w σ.stab b o us) : repDV σ (.p (.sl nn s xs)) (.slice A xs.length c) := by
  rw [repDV_one (by rfl)]
  simp only [repD, repC]
  exact ⟨h1, A, c, rfl, h2, h3, h4, h5, h6⟩
theorem repDV_own {id s : Nat} {nn : Bool} {xs : List Pl} (h : repDV σ (.own id nn s xs) v) :
    allSz s xs ∧ ∃ A c, v = .slice A xs.length c ∧ xs.length ≤ c ∧ c ≤ maxLen ∧ A.isSome = nn ∧ (nn = false → c = 0) ∧
      (xs ≠ [] → ∃ b o us, A = some ⟨b, o, none⟩ ∧ repCs σ.w σ.stab xs us ∧ Cells σ.w σ.stab b o us) ∧ ownFront σ id s xs.length A c := by
  rw [repDV_one (by rfl)] at h
  simpa [repD] using h
theorem repDV_own_sl {id s : Nat} {nn : Bool} {xs : List Pl} (h : repDV σ (.own id nn s xs) v) : repDV σ (.p (.sl nn s xs)) v := by
  obtain ⟨h1, A, c, rfl, h2, h3, h4, h5, h6, _⟩ := repDV_own h
  exact repDV_sl_mk h1 h2 h3 h4 h5 h6
end

/-! ### Sizes -/
mutual
theorem repC_size {w : World} {S : Nat → Nat → Prop} : ∀ (x : Pl) (vs : List Value), repC w S x vs → vs.length = x.size
  | .int _ _, _, h => by simp only [repC] at h; subst h; rfl
  | .bool _, _, h => by simp only [repC] at h; subst h; rfl
  | .str _, _, h => by simp only [repC] at h; subst h; rfl
  | .ptr0, _, h => by simp only [repC] at h; subst h; rfl
  | .fn0, _, h => by simp only [repC] at h; subst h; rfl
  | .if0, _, h => by simp only [repC] at h; subst h; rfl
  | .map0, _, h => by simp only [repC] at h; subst h; rfl
  | .fnv _, _, h => by simp only [repC] at h; subst h; rfl
  | .agg xs, vs, h => by
    simp only [repC] at h
    simpa [Pl.size] using repCs_size xs vs h
  | .arr n s xs, vs, h => by
    simp only [repC] at h
    obtain ⟨h1, h2, h3⟩ := h
    have := repCs_size xs vs h3
    rw [this, Pl.size, ← h1]
    exact sizes_all h2
  | .sl _ _ _, _, h => by
    simp only [repC] at h
    obtain ⟨_, A, c, h, _⟩ := h
    subst h; rfl
  | .iface _ _, _, h => by
    simp only [repC] at h
    obtain ⟨v, h, _⟩ := h
    subst h; rfl
theorem repCs_size {w : World} {S : Nat → Nat → Prop} : ∀ (xs : List Pl) (vs : List Value), repCs w S xs vs → vs.length = Pl.sizes xs
  | [], _, h => by simp only [repCs] at h; subst h; rfl
  | x :: xs, vs, h => by
    simp only [repCs] at h
    obtain ⟨us, us', rfl, h1, h2⟩ := h
    rw [List.length_append, repC_size x us h1, repCs_size xs us' h2, Pl.sizes]
theorem sizes_all {s : Nat} : ∀ {xs : List Pl}, allSz s xs → Pl.sizes xs = xs.length * s
  | [], _ => by simp [Pl.sizes]
  | x :: xs, h => by
    rw [Pl.sizes, h x (List.mem_cons_self ..), sizes_all (fun y hy => h y (List.mem_cons_of_mem _ hy)), List.length_cons, Nat.add_mul]
    omega
end

theorem repCs_append {w : World} {S : Nat → Nat → Prop} {xs ys : List Pl} {us vs : List Value} (h : repCs w S xs us) (k : repCs w S ys vs) : repCs w S (xs ++ ys) (us ++ vs) := by
  induction xs generalizing us with
  | nil => simp only [repCs] at h; subst h; simpa using k
  | cons x xs ih =>
    simp only [repCs] at h
    obtain ⟨a, b, rfl, h1, h2⟩ := h
    simp only [List.cons_append, repCs, List.append_assoc]
    exact ⟨a, b ++ vs, rfl, h1, ih h2⟩
theorem repCs_split {w : World} {S : Nat → Nat → Prop} {xs ys : List Pl} {us : List Value} (h : repCs w S (xs ++ ys) us) : ∃ a b, us = a ++ b ∧ repCs w S xs a ∧ repCs w S ys b := by
  induction xs generalizing us with
  | nil => exact ⟨[], us, rfl, by simp [repCs], h⟩
  | cons x xs ih =>
    simp only [List.cons_append, repCs] at h
    obtain ⟨a, b, rfl, h1, h2⟩ := h
    obtain ⟨c, d, rfl, h3, h4⟩ := ih h2
    exact ⟨a ++ c, d, by simp, by simp only [repCs]; exact ⟨a, c, rfl, h1, h3⟩, h4⟩
theorem allSz_append {s : Nat} {xs ys : List Pl} (h : allSz s xs) (k : allSz s ys) : allSz s (xs ++ ys) := by
  intro x hx
  rcases List.mem_append.1 hx with h1 | h1
  · exact h x h1
  · exact k x h1
theorem allSz_take {s : Nat} {xs : List Pl} (h : allSz s xs) (n : Nat) : allSz s (xs.take n) := fun x hx => h x (List.mem_of_mem_take hx)
theorem allSz_drop {s : Nat} {xs : List Pl} (h : allSz s xs) (n : Nat) : allSz s (xs.drop n) := fun x hx => h x (List.mem_of_mem_drop hx)

theorem Cells.append {w : World} {S : Nat → Nat → Prop} {b o : Nat} {us vs : List Value} (h : Cells w S b o (us ++ vs)) : Cells w S b o us ∧ Cells w S b (o + us.length) vs := by
  constructor
  · intro j u hu
    exact h j u (by rw [List.getElem?_append_left (List.getElem?_eq_some_iff.1 hu).1]; exact hu)
  · intro j u hu
    have := h (us.length + j) u (by rw [List.getElem?_append_right (by omega)]; simpa using hu)
    rwa [← Nat.add_assoc] at this

/-! ### Constants -/
theorem plCell_rep {P : Program} {t : TypeId} {v : Value} {x : Pl} (h : plCell P t v = some x) (w : World) (S : Nat → Nat → Prop) : repC w S x [v] ∧ x.isAgg = false := by
  unfold plCell at h
  split at h <;> first
    | (cases h; done)
    | (simp only [Option.some.injEq] at h; subst h; refine ⟨?_, rfl⟩; simp only [repC]; done)
    | (simp only [Option.some.injEq] at h; subst h; exact ⟨by simp only [repC]; exact ⟨fun _ hx => (by cases hx), none, 0, rfl, Nat.le_refl _, Nat.zero_le _, rfl, fun _ => rfl, fun hn => absurd rfl hn⟩, rfl⟩)

mutual
theorem plOf_rep {P : Program} : ∀ (fuel : Nat) (t : TypeId) (vs : List Value) (x : Pl) (r : List Value), plOf P fuel t vs = some (x, r) → ∀ w S, ∃ us, vs = us ++ r ∧ repC w S x us
  | 0, _, _, _, _, h, _, _ => by simp [plOf] at h
  | fuel + 1, t, vs, x, r, h, w, S => by
    simp only [plOf] at h
    split at h
    · rename_i fs _
      simp only [Option.map_eq_some_iff, Prod.mk.injEq] at h
      obtain ⟨⟨xs, r'⟩, h1, rfl, rfl⟩ := h
      obtain ⟨us, e, hr⟩ := plFields_rep fuel _ _ _ _ h1 w S
      exact ⟨us, e, by simpa [repC] using hr⟩
    · rename_i n e _
      simp only [Option.map_eq_some_iff, Prod.mk.injEq] at h
      obtain ⟨⟨xs, r'⟩, h1, rfl, rfl⟩ := h
      obtain ⟨us, e', hl, ha, hr⟩ := plArr_rep fuel _ _ _ _ _ h1 w S
      exact ⟨us, e', by simp only [repC]; exact ⟨hl, ha, hr⟩⟩
    · split at h
      · rename_i v r'
        simp only [Option.map_eq_some_iff, Prod.mk.injEq] at h
        obtain ⟨x', h1, rfl, rfl⟩ := h
        exact ⟨[v], rfl, (plCell_rep h1 w S).1⟩
      · cases h
    · cases h
theorem plFields_rep {P : Program} : ∀ (fuel : Nat) (ts : List TypeId) (vs : List Value) (xs : List Pl) (r : List Value), plFields P fuel ts vs = some (xs, r) → ∀ w S, ∃ us, vs = us ++ r ∧ repCs w S xs us
  | 0, _, _, _, _, h, _, _ => by simp [plFields] at h
  | fuel + 1, [], vs, xs, r, h, w, S => by
    simp only [plFields, Option.some.injEq, Prod.mk.injEq] at h
    obtain ⟨rfl, rfl⟩ := h
    exact ⟨[], rfl, by simp [repCs]⟩
  | fuel + 1, t :: ts, vs, xs, r, h, w, S => by
    simp only [plFields] at h
    split at h
    · rename_i x r' h1
      simp only [Option.map_eq_some_iff, Prod.mk.injEq] at h
      obtain ⟨⟨xs', r''⟩, h2, rfl, rfl⟩ := h
      obtain ⟨us, e1, k1⟩ := plOf_rep fuel _ _ _ _ h1 w S
      obtain ⟨us', e2, k2⟩ := plFields_rep fuel _ _ _ _ h2 w S
      subst e2
      exact ⟨us ++ us', by rw [e1, List.append_assoc], by simp only [repCs]; exact ⟨us, us', rfl, k1, k2⟩⟩
    · cases h
theorem plArr_rep {P : Program} : ∀ (fuel : Nat) (e : TypeId) (n : Nat) (vs : List Value) (xs : List Pl) (r : List Value), plArr P fuel e n vs = some (xs, r) →
    ∀ w S, ∃ us, vs = us ++ r ∧ xs.length = n ∧ allSz (P.cellsOf e) xs ∧ repCs w S xs us
  | 0, _, _, _, _, _, h, _, _ => by simp [plArr] at h
  | fuel + 1, e, 0, vs, xs, r, h, w, S => by
    simp only [plArr, Option.some.injEq, Prod.mk.injEq] at h
    obtain ⟨rfl, rfl⟩ := h
    exact ⟨[], rfl, rfl, (fun _ hx => (by cases hx)), by simp [repCs]⟩
  | fuel + 1, e, n + 1, vs, xs, r, h, w, S => by
    simp only [plArr] at h
    split at h
    · rename_i x r' h1
      split at h
      · rename_i hs
        simp only [Option.map_eq_some_iff, Prod.mk.injEq] at h
        obtain ⟨⟨xs', r''⟩, h2, rfl, rfl⟩ := h
        obtain ⟨us, e1, k1⟩ := plOf_rep fuel _ _ _ _ h1 w S
        obtain ⟨us', e2, hl, ha, k2⟩ := plArr_rep fuel _ _ _ _ _ h2 w S
        subst e2
        refine ⟨us ++ us', by rw [e1, List.append_assoc], by simp [hl], ?_, by simp only [repCs]; exact ⟨us, us', rfl, k1, k2⟩⟩
        intro y hy
        cases hy with
        | head => exact hs
        | tail _ hy => exact ha y hy
      · cases h
    · cases h
end

theorem constD_rep {P : Program} {t : TypeId} {v : Value} {σ : Sg} : repDV σ (constD P t v) v := by
  unfold constD
  split
  · rename_i cs
    split
    · rename_i x h
      split
      · rename_i ha
        obtain ⟨us, e, hr⟩ := plOf_rep _ _ _ _ _ h σ.w σ.stab
        rw [repDV_agg (by simpa [Dv.isAgg] using ha)]
        exact ⟨cs, rfl, by simp only [repD]; rw [e]; simpa using hr⟩
      · exact repDV_junk
    · exact repDV_junk
  · rename_i f fst cap
    split
    · rename_i hh
      have h1 : fst = #[] := by simpa using hh.1
      have h2 : cap = #[] := by simpa using hh.2
      subst h1; subst h2
      simp [repDV, Dv.isAgg, repD, repVs]
    · exact repDV_junk
  · split
    · rename_i x h
      have := plCell_rep h σ.w σ.stab
      rw [repDV_one (by simpa [Dv.isAgg] using this.2)]
      simpa [repD] using this.1
    · exact repDV_junk

theorem arg_rep {P : Program} {σ : Sg} {ts : List Dv} {a : Act} (h : RepT σ ts a) (t : TypeId) (x : Operand) : repDV σ (argD P ts t x) (a.eval x) := by
  cases x with
  | tmp i =>
    simp only [argD, Act.eval]
    cases hi : ts[i]? with
    | none => simp only [List.getD, hi, Option.getD_none]; exact repDV_junk
    | some d => simp only [List.getD, hi, Option.getD_some]; exact h.at_ i d hi
  | const v => exact constD_rep
  | global g => exact repDV_junk
  | func f => simp [argD, Act.eval, repDV, Dv.isAgg, repD, repVs]

theorem plain_rep {σ : Sg} {d : Dv} {x : Pl} {v : Value} (h : d.plain = some x) (hr : repDV σ d v) : repDV σ (.p x) v := by
  unfold Dv.plain at h
  split at h
  · cases h; exact hr
  · cases h; exact repDV_own_sl hr
  · cases h

theorem arg_arg {σ : Sg} {d : Dv} {v : Value} (hr : repDV σ d v) : repDV σ d.arg v := by
  unfold Dv.arg
  split
  · exact repDV_own_sl hr
  · exact hr
end Go.Ev
