/- The evaluator, part H: why it is right: operations that turn no entry. -/
import Derived.Test.YtpgogpohkldhaaaEvG
import Derived.Maps.AppendAt
set_option linter.unusedVariables false
set_option linter.unusedSimpArgs false
namespace Go.Ev

theorem repVs_len {σ : Sg} : ∀ {ds : List Dv} {vs : List Value}, repVs σ ds vs → vs.length = ds.length
  | [], vs, h => by simp only [repVs] at h; subst h; rfl
  | d :: ds, vs, h => by
    simp only [repVs] at h
    obtain ⟨v, vs', rfl, _, h2⟩ := h
    simp [repVs_len h2]
theorem repVs_at {σ : Sg} : ∀ {ds : List Dv} {vs : List Value} {i : Nat} {d : Dv}, repVs σ ds vs → ds[i]? = some d → ∃ v, vs[i]? = some v ∧ repDV σ d v
  | [], vs, i, d, _, hd => by simp at hd
  | x :: ds, vs, i, d, h, hd => by
    simp only [repVs] at h
    obtain ⟨v, vs', rfl, h1, h2⟩ := h
    cases i with
    | zero =>
      simp only [List.getElem?_cons_zero, Option.some.injEq] at hd
      subst hd
      exact ⟨v, rfl, h1⟩
    | succ i =>
      simp only [List.getElem?_cons_succ] at hd ⊢
      exact repVs_at h2 hd
theorem repVs_append {σ : Sg} : ∀ {ds es : List Dv} {vs us : List Value}, repVs σ ds vs → repVs σ es us → repVs σ (ds ++ es) (vs ++ us)
  | [], es, vs, us, h, k => by simp only [repVs] at h; subst h; simpa using k
  | d :: ds, es, vs, us, h, k => by
    simp only [repVs] at h
    obtain ⟨v, vs', rfl, h1, h2⟩ := h
    simp only [List.cons_append, repVs]
    exact ⟨v, vs' ++ us, rfl, h1, repVs_append h2 k⟩
theorem repVs_of {σ : Sg} {α : Type} (f : α → Dv) (g : α → Value) (h : ∀ x, repDV σ (f x) (g x)) : ∀ (l : List α), repVs σ (l.map f) (l.map g)
  | [] => by simp [repVs]
  | x :: l => by
    simp only [List.map_cons, repVs]
    exact ⟨g x, l.map g, rfl, h x, repVs_of f g h l⟩

/-- a slice of what a slice reads -/
theorem cut_rep {w : World} {S : Nat → Nat → Prop} {s : Nat} {xs : List Pl} {A : Option Addr} {c l h : Nat} (hs : allSz s xs) (hn : xs.length ≤ c) (hcm : c ≤ maxLen) (hnil : A = none → c = 0)
    (hr : xs ≠ [] → ∃ b o us, A = some ⟨b, o, none⟩ ∧ repCs w S xs us ∧ Cells w S b o us) (h1 : l ≤ h) (h2 : h ≤ xs.length) :
    allSz s ((xs.take h).drop l) ∧ ((xs.take h).drop l).length = h - l ∧ h - l ≤ c - l ∧ c - l ≤ maxLen ∧ (if c = l then A else A.map (·.add (l * s))).isSome = A.isSome ∧
      ((if c = l then A else A.map (·.add (l * s))) = none → c - l = 0) ∧
      ((xs.take h).drop l ≠ [] → ∃ b o us, (if c = l then A else A.map (·.add (l * s))) = some ⟨b, o, none⟩ ∧ repCs w S ((xs.take h).drop l) us ∧ Cells w S b o us) := by
  have hlen : ((xs.take h).drop l).length = h - l := by rw [List.length_drop, List.length_take, Nat.min_eq_left h2]
  refine ⟨allSz_drop (allSz_take hs _) _, hlen, by omega, by omega, ?_, ?_, fun hne => ?_⟩
  · split
    · rfl
    · simp
  · split
    · omega
    · intro hA
      have hA' : A = none := by simpa using hA
      have := hnil hA'
      omega
  · have hlt : l < h := by
      rcases Nat.lt_or_ge l h with h3 | h3
      · exact h3
      · exact absurd (List.eq_nil_of_length_eq_zero (by rw [hlen]; omega)) hne
    have hxs : xs ≠ [] := by
      rintro rfl
      simp at h2
      omega
    obtain ⟨b, o, us, rfl, h3, h4⟩ := hr hxs
    have hc : ¬ c = l := by omega
    rw [if_neg hc]
    have e : xs = xs.take l ++ ((xs.take h).drop l ++ xs.drop h) := by
      have e1 : (xs.take h).drop l ++ xs.drop h = xs.drop l := by
        have : xs.drop l = (xs.take h ++ xs.drop h).drop l := by rw [List.take_append_drop]
        rw [this, List.drop_append_of_le_length (by rw [List.length_take]; omega)]
      rw [e1, List.take_append_drop]
    rw [e] at h3
    obtain ⟨u1, u2, rfl, h5, h6⟩ := repCs_split h3
    obtain ⟨u3, u4, rfl, h7, h8⟩ := repCs_split h6
    have hl1 : u1.length = l * s := by
      rw [repCs_size _ _ h5, sizes_all (allSz_take hs _), List.length_take, Nat.min_eq_left (by omega)]
    refine ⟨b, o + l * s, u3, by simp [Addr.add_mk], h7, ?_⟩
    have := (Cells.append (Cells.append h4).2).1
    rwa [hl1] at this

theorem bounds_run {P : Program} {w : World} (isSlice : Bool) (len cap : Nat) (lo hi : Option Value) (l h : Option Int) (hl : lo = none ∧ l = none ∨ ∃ k i, lo = some (.int k i) ∧ l = some i)
    (hh : hi = none ∧ h = none ∨ ∃ k i, hi = some (.int k i) ∧ h = some i) (hc : AllP (cutConds len l h)) (hlen : len ≤ cap) :
    ∃ a b, (Instr.sliceBounds isSlice len cap lo hi none).run P w = .ok (a, b, cap) w ∧ a ≤ b ∧ b ≤ len ∧ a = (l.getD 0).toNat ∧ b = (h.getD (len : Int)).toNat := by
  rcases hl with ⟨rfl, rfl⟩ | ⟨k, i, rfl, rfl⟩ <;> rcases hh with ⟨rfl, rfl⟩ | ⟨k', i', rfl, rfl⟩
  · exact ⟨0, len, by simp [Instr.sliceBounds], Nat.zero_le _, Nat.le_refl _, rfl, by simp⟩
  · obtain ⟨h1, h2, _⟩ := hc
    refine ⟨0, i'.toNat, ?_, Nat.zero_le _, by omega, rfl, rfl⟩
    have hb : 0 ≤ i' ∧ i' ≤ (cap : Int) := ⟨h1, by omega⟩
    simp [Instr.sliceBounds, Instr.sliceBound, asIntOf, hb]
  · obtain ⟨h1, h2, _⟩ := hc
    refine ⟨i.toNat, len, ?_, by omega, Nat.le_refl _, rfl, by simp⟩
    have hb : 0 ≤ i ∧ i ≤ (len : Int) := ⟨h1, h2⟩
    simp [Instr.sliceBounds, Instr.sliceBound, asIntOf, hb]
  · obtain ⟨h1, h2, h3, _⟩ := hc
    refine ⟨i.toNat, i'.toNat, ?_, by omega, by omega, rfl, rfl⟩
    have hb : 0 ≤ i' ∧ i' ≤ (cap : Int) := ⟨by omega, by omega⟩
    have hb' : 0 ≤ i ∧ i ≤ (i'.toNat : Int) := ⟨h1, by omega⟩
    have hb2 : i ≤ max i' 0 := by omega
    simp [Instr.sliceBounds, Instr.sliceBound, asIntOf, hb, h1, hb2]

theorem cutList_eq {α : Type} (xs : List α) (l h : Option Int) (hc : AllP (cutConds xs.length l h)) : cutList xs l h = (xs.take ((h.getD (xs.length : Int)).toNat)).drop ((l.getD 0).toNat) := by
  cases l <;> cases h <;> simp [cutList]

theorem lowOf_rep {P : Program} {σ : Sg} {ts : List Dv} {a : Act} (hrep : RepT σ ts a) {x : Option Operand} {l : Option Int} (h : lowOf P ts x = some l) :
    x.map a.eval = none ∧ l = none ∨ ∃ k i, x.map a.eval = some (.int k i) ∧ l = some i := by
  unfold lowOf at h
  split at h
  · cases h; exact .inl ⟨rfl, rfl⟩
  · rename_i y
    split at h
    · rename_i k i hy
      cases h
      have := arg_rep (P := P) hrep 0 y
      rw [hy] at this
      exact .inr ⟨k, i, by simp [repDV_int this], rfl⟩
    · cases h
end Go.Ev
