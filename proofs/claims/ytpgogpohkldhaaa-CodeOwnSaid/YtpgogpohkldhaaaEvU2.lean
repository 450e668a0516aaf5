/- The evaluator, part U2: why it is right: regions whose order is drawn. -/
import Derived.Test.YtpgogpohkldhaaaEvU
set_option linter.unusedVariables false
set_option linter.unusedSimpArgs false
namespace Go.Ev

theorem maskFrom_get (keep : List Nat) : ∀ (l : List Dv) (k t : Nat), (maskFrom keep k l)[t]? = (l[t]?).map fun d => if keep.contains (k + t) then d else .junk
  | [], k, t => by simp [maskFrom]
  | d :: l, k, 0 => by simp [maskFrom]
  | d :: l, k, t + 1 => by
    simp only [maskFrom, List.getElem?_cons_succ]
    rw [maskFrom_get keep l (k + 1) t]
    simp [Nat.add_assoc, Nat.add_comm 1 t]

theorem maskFrom_rep {σ : Sg} {a : Act} {ts : List Dv} (keep : List Nat) (h : RepT σ ts a) : RepT σ (maskFrom keep 0 ts) a := by
  refine ⟨?_, fun i d hi => ?_, h.defers⟩
  · rw [h.size]
    have : ∀ (l : List Dv) (k : Nat), (maskFrom keep k l).length = l.length := by
      intro l
      induction l with
      | nil => intro k; rfl
      | cons x l ih => intro k; simp [maskFrom, ih]
    exact (this ts 0).symm
  · rw [maskFrom_get] at hi
    obtain ⟨d', h1, h2⟩ := Option.map_eq_some_iff.1 hi
    split at h2
    · rw [← h2]; exact h.at_ i d' h1
    · rw [← h2]; exact repDV_junk

/-! ### What comes ahead -/
theorem fold_bits (A : List Nat) (i j : Nat) : ∀ (es : List Edge) (m : Nat), (es.foldl (fun m e => if Region.binds .any e && decide (e.on < i) then m ||| (1 <<< e.on) ||| A.getD e.on 0 else m) m).testBit j = true →
    m.testBit j = true ∨ ∃ e, e ∈ es ∧ Region.binds .any e = true ∧ e.on < i ∧ (e.on = j ∨ (A.getD e.on 0).testBit j = true)
  | [], m, h => .inl h
  | e :: es, m, h => by
    simp only [List.foldl_cons] at h
    rcases fold_bits A i j es _ h with h1 | ⟨e', h1, h2⟩
    · split at h1
      · rename_i hc
        simp only [Bool.and_eq_true, decide_eq_true_eq] at hc
        simp only [Nat.testBit_or, Bool.or_eq_true, Nat.one_shiftLeft, Nat.testBit_two_pow, decide_eq_true_eq] at h1
        rcases h1 with (h1 | h1) | h1
        · exact .inl h1
        · exact .inr ⟨e, List.mem_cons_self .., hc.1, hc.2, .inl h1⟩
        · exact .inr ⟨e, List.mem_cons_self .., hc.1, hc.2, .inr h1⟩
      · exact .inl h1
    · exact .inr ⟨e', List.mem_cons_of_mem _ h1, h2⟩

section
variable {P : Program} {ops : Array Oper}

/-- what holds of the listed operations: whatever one waits for is listed -/
def Closed (ops : Array Oper) (X : Nat → Bool) : Prop := ∀ i o, ops[i]? = some o → X i = true → ∀ e, e ∈ o.after → Region.binds .any e = true → X e.on = true

theorem closed_anc {X : Nat → Bool} {A : List Nat} (hX : Closed ops X) (hA : ∀ i o, ops[i]? = some o → A.getD i 0 = ancStep A i o) : ∀ (i : Nat), (∃ o, ops[i]? = some o) → X i = true → ∀ j, (A.getD i 0).testBit j = true → X j = true := by
  intro i
  induction i using Nat.strongRecOn with
  | _ i ih =>
    rintro ⟨o, ho⟩ hi j hj
    rw [hA i o ho] at hj
    unfold ancStep at hj
    rcases fold_bits A i j _ _ hj with h | ⟨e, h1, h2, h3, h4⟩
    · simp at h
    · have he := hX i o ho hi e (by simpa using h1) h2
      rcases h4 with h4 | h4
      · rw [← h4]; exact he
      · have hlt : e.on < ops.size := by
          have := (Array.getElem?_eq_some_iff.1 ho).1
          omega
        exact ih e.on h3 ⟨ops[e.on], Array.getElem?_eq_getElem hlt⟩ he j h4

/-- the values of the slots when the operations of X have been carried out -/
def val (n : Nat) (dst : Nat → Option Tmp) (D : Nat → Dv) (ts0 : List Dv) (X : Nat → Bool) (t : Nat) : Dv :=
  match (List.range n).find? fun j => X j && dst j == some t with
  | some j => D j
  | none => ts0.getD t .junk
def tsX (n : Nat) (dst : Nat → Option Tmp) (D : Nat → Dv) (ts0 : List Dv) (X : Nat → Bool) : List Dv := (List.range ts0.length).map (val n dst D ts0 X)

variable {n : Nat} {dst : Nat → Option Tmp} {D : Nat → Dv} {ts0 : List Dv}

theorem val_some (hu : ∀ i j, i < n → j < n → dst i ≠ none → dst i = dst j → i = j) {X : Nat → Bool} {t j : Nat} (hj : j < n) (hX : X j = true) (hd : dst j = some t) : val n dst D ts0 X t = D j := by
  unfold val
  cases hf : (List.range n).find? fun j => X j && dst j == some t with
  | none =>
    rw [List.find?_eq_none] at hf
    have := hf j (List.mem_range.2 hj)
    simp [hX, hd] at this
  | some i =>
    have h1 := List.find?_some hf
    have h2 := List.mem_of_find?_eq_some hf
    simp only [Bool.and_eq_true, beq_iff_eq] at h1
    have h3 : i < n := List.mem_range.1 h2
    rw [hu i j h3 hj (by rw [h1.2]; simp) (by rw [h1.2, hd])]
theorem val_none {X : Nat → Bool} {t : Nat} (h : ∀ j, j < n → X j = true → dst j ≠ some t) : val n dst D ts0 X t = ts0.getD t .junk := by
  unfold val
  cases hf : (List.range n).find? fun j => X j && dst j == some t with
  | none => rfl
  | some i =>
    have h1 := List.find?_some hf
    have h2 := List.mem_range.1 (List.mem_of_find?_eq_some hf)
    simp only [Bool.and_eq_true, beq_iff_eq] at h1
    exact absurd h1.2 (h i h2 h1.1)

theorem tsX_length {X : Nat → Bool} : (tsX n dst D ts0 X).length = ts0.length := by simp [tsX]
theorem tsX_get {X : Nat → Bool} {t : Nat} (h : t < ts0.length) : (tsX n dst D ts0 X)[t]? = some (val n dst D ts0 X t) := by
  simp [tsX, h]

theorem tsX_empty {X : Nat → Bool} (h : ∀ j, j < n → X j = false) : tsX n dst D ts0 X = ts0 := by
  apply List.ext_getElem?
  intro t
  by_cases ht : t < ts0.length
  · rw [tsX_get ht, val_none (fun j hj hx => by rw [h j hj] at hx; cases hx)]
    simp [List.getD, ht]
  · rw [List.getElem?_eq_none (by rw [tsX_length]; omega), List.getElem?_eq_none (by omega)]

theorem tsX_put (hu : ∀ i j, i < n → j < n → dst i ≠ none → dst i = dst j → i = j) {X Y : Nat → Bool} {i : Nat} (hi : i < n) (hXi : X i = false) (hY : ∀ j, j < n → Y j = (X j || decide (j = i))) :
    putT (tsX n dst D ts0 X) (dst i) (D i) = tsX n dst D ts0 Y := by
  apply List.ext_getElem?
  intro t
  by_cases ht : t < ts0.length
  · rw [tsX_get ht]
    have hother : dst i ≠ some t → val n dst D ts0 Y t = val n dst D ts0 X t := by
      intro hne
      by_cases hex : ∃ j, j < n ∧ X j = true ∧ dst j = some t
      · obtain ⟨j, h1, h2, h3⟩ := hex
        rw [val_some hu h1 h2 h3, val_some hu h1 (by rw [hY j h1, h2]; rfl) h3]
      · rw [val_none (fun j h1 h2 h3 => hex ⟨j, h1, h2, h3⟩), val_none (fun j h1 h2 h3 => ?_)]
        rw [hY j h1] at h2
        simp only [Bool.or_eq_true, decide_eq_true_eq] at h2
        rcases h2 with h2 | h2
        · exact hex ⟨j, h1, h2, h3⟩
        · subst h2; exact hne h3
    unfold putT
    cases hd : dst i with
    | none =>
      rw [hother (by rw [hd]; simp), tsX_get ht]
    | some t' =>
      rw [List.getElem?_set]
      by_cases htt : t' = t
      · subst htt
        rw [if_pos rfl, if_pos (by rw [tsX_length]; exact ht), val_some hu hi (by rw [hY i hi]; simp) hd]
      · rw [if_neg htt, tsX_get ht, hother (by rw [hd]; simpa using htt)]
  · have hl : (putT (tsX n dst D ts0 X) (dst i) (D i)).length = ts0.length := by
      unfold putT
      cases dst i with
      | none => rw [tsX_length]
      | some t' => rw [List.length_set, tsX_length]
    rw [List.getElem?_eq_none (by rw [hl]; omega), List.getElem?_eq_none (by rw [tsX_length]; omega)]

/-- what one operation looks at is the same in every order -/
theorem mask_same (hu : ∀ i j, i < n → j < n → dst i ≠ none → dst i = dst j → i = j) {X Y : Nat → Bool} {keep : List Nat} (h : ∀ j t, j < n → dst j = some t → t ∈ keep → X j = Y j) :
    maskFrom keep 0 (tsX n dst D ts0 X) = maskFrom keep 0 (tsX n dst D ts0 Y) := by
  apply List.ext_getElem?
  intro t
  rw [maskFrom_get, maskFrom_get]
  by_cases ht : t < ts0.length
  · rw [tsX_get ht, tsX_get ht]
    simp only [Option.map_some, Nat.zero_add]
    by_cases hk : t ∈ keep
    · have hkc : keep.contains t = true := by simpa using hk
      rw [hkc]
      simp only [if_true]
      congr 1
      by_cases hex : ∃ j, j < n ∧ X j = true ∧ dst j = some t
      · obtain ⟨j, h1, h2, h3⟩ := hex
        rw [val_some hu h1 h2 h3, val_some hu h1 (by rw [← h j t h1 h3 hk]; exact h2) h3]
      · rw [val_none (fun j h1 h2 h3 => hex ⟨j, h1, h2, h3⟩), val_none (fun j h1 h2 h3 => hex ⟨j, h1, by rw [h j t h1 h3 hk]; exact h2, h3⟩)]
    · have hkc : keep.contains t = false := by simpa using hk
      rw [hkc]
      rfl
  · rw [List.getElem?_eq_none (by rw [tsX_length]; omega), List.getElem?_eq_none (by rw [tsX_length]; omega)]
end

/-! ### What each operation does, whatever the order -/
section
variable {P : Program} {ops : Array Oper}

theorem evOp_N {o : Oper} {ts : List Dv} {H H2 : List Ent} {hs : List Hint} {r : List Prop × Dv × List Ent × List Hint} (h : evOp P o ts H hs = some r) (hn : (evN P o ts hs).isSome = true) : r.2.2.1 = H ∧ evOp P o ts H2 hs = some (r.1, r.2.1, H2, r.2.2.2) := by
  unfold evOp at h ⊢
  cases hh : evN P o ts hs with
  | none => simp [hh] at hn
  | some q =>
    simp only [hh, Option.some.injEq] at h
    subst h
    exact ⟨rfl, rfl⟩
theorem evOp_R {o : Oper} {ts : List Dv} {H : List Ent} {hs : List Hint} {r : List Prop × Dv × List Ent × List Hint} (h : evOp P o ts H hs = some r) (hn : (evN P o ts hs).isSome = false) (hr : (evR P o ts H hs).isSome = true) : r.2.2.1 = H := by
  unfold evOp at h
  cases hh : evN P o ts hs with
  | some q => simp [hh] at hn
  | none =>
    cases hq : evR P o ts H hs with
    | none => simp [hq] at hr
    | some q =>
      simp only [hh, hq, Option.some.injEq] at h
      subst h
      rfl

theorem evG_cls0 {o : Oper} {ts : List Dv} {H H2 : List Ent} {hs : List Hint} {C : List Prop} {d : Dv} {H' : List Ent} {hs' : List Hint} (h : evG P ops o ts H hs = some (C, d, H', hs')) (hc : clsOf P o ts H hs = 0) :
    H' = H ∧ evG P ops o ts H2 hs = some (C, d, H2, hs') := by
  unfold evG at h ⊢
  unfold clsOf at hc
  cases hg : o.guard with
  | none =>
    simp only [hg] at h hc ⊢
    have hn : (evN P o ts hs).isSome = true := by
      cases hh : (evN P o ts hs).isSome with
      | true => rfl
      | false =>
        rw [hh] at hc
        simp only [Bool.false_eq_true, if_false] at hc
        split at hc <;> simp at hc
    simp only [Option.map_eq_some_iff, Prod.mk.injEq] at h
    obtain ⟨⟨C1, d1, H1, hs1⟩, h1, rfl, rfl, rfl, rfl⟩ := h
    obtain ⟨e1, e2⟩ := evOp_N (H2 := H2) h1 hn
    exact ⟨e1, by rw [e2]; rfl⟩
  | some gw =>
    obtain ⟨g, want⟩ := gw
    simp only [hg] at h hc ⊢
    split at h
    · rename_i t β hs1 ht
      dsimp only at hc
      split at h
      · rename_i hb
        rw [if_pos hb] at hc ⊢
        have hn : (evN P o ts hs1).isSome = true := by
          cases hh : (evN P o ts hs1).isSome with
          | true => rfl
          | false =>
            rw [hh] at hc
            simp only [Bool.false_eq_true, if_false] at hc
            split at hc <;> simp at hc
        simp only [Option.map_eq_some_iff, Prod.mk.injEq] at h
        obtain ⟨⟨C1, d1, H1, hs2⟩, h1, rfl, rfl, rfl, rfl⟩ := h
        obtain ⟨e1, e2⟩ := evOp_N (H2 := H2) h1 hn
        exact ⟨e1, by rw [e2]; rfl⟩
      · rename_i hb
        rw [if_neg hb]
        simp only [Option.some.injEq, Prod.mk.injEq] at h
        obtain ⟨rfl, rfl, rfl, rfl⟩ := h
        exact ⟨rfl, rfl⟩
    · simp only [Option.some.injEq, Prod.mk.injEq] at h
      obtain ⟨rfl, rfl, rfl, rfl⟩ := h
      exact ⟨rfl, rfl⟩
    · cases h

theorem evG_cls1 {o : Oper} {ts : List Dv} {H : List Ent} {hs : List Hint} {C : List Prop} {d : Dv} {H' : List Ent} {hs' : List Hint} (h : evG P ops o ts H hs = some (C, d, H', hs')) (hc : clsOf P o ts H hs ≠ 2) : H' = H := by
  unfold evG at h
  unfold clsOf at hc
  cases hg : o.guard with
  | none =>
    simp only [hg] at h hc
    simp only [Option.map_eq_some_iff, Prod.mk.injEq] at h
    obtain ⟨⟨C1, d1, H1, hs1⟩, h1, rfl, rfl, rfl, rfl⟩ := h
    cases hn : (evN P o ts hs).isSome with
    | true => exact (evOp_N (H2 := []) h1 hn).1
    | false =>
      cases hr : (evR P o ts H hs).isSome with
      | true => exact evOp_R h1 hn hr
      | false => simp [hn, hr] at hc
  | some gw =>
    obtain ⟨g, want⟩ := gw
    simp only [hg] at h hc
    split at h
    · rename_i t β hs1 ht
      dsimp only at hc
      split at h
      · rename_i hb
        simp only [if_pos hb] at hc
        simp only [Option.map_eq_some_iff, Prod.mk.injEq] at h
        obtain ⟨⟨C1, d1, H1, hs2⟩, h1, rfl, rfl, rfl, rfl⟩ := h
        cases hn : (evN P o ts hs1).isSome with
        | true => exact (evOp_N (H2 := []) h1 hn).1
        | false =>
          cases hr : (evR P o ts H hs1).isSome with
          | true => exact evOp_R h1 hn hr
          | false => simp [hn, hr] at hc
      · simp only [Option.some.injEq, Prod.mk.injEq] at h
        obtain ⟨rfl, rfl, rfl, rfl⟩ := h
        rfl
    · simp only [Option.some.injEq, Prod.mk.injEq] at h
      obtain ⟨rfl, rfl, rfl, rfl⟩ := h
      rfl
    · cases h
end
end Go.Ev
