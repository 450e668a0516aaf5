/- Plain laws of layer 8 (code): what is laid is read as it was; what is cut off is not; what is read would be laid so. -/
import Derived.Test.YtpgogpohkldhaaaMB
set_option linter.unusedVariables false
set_option linter.unusedSimpArgs false
namespace Go.Proofs.Ytpgogpohkldhaaa
open Go.Ev

theorem ofNat_toNat {n : Nat} (h : n < 256) : (UInt8.ofNat n).toNat = n := by simp [Nat.mod_eq_of_lt h]
theorem get_pre {a : List UInt8} {k : Nat} {x : UInt8} {r : List UInt8} (h : a.length = k) : (a ++ x :: r)[k]? = some x := by
  rw [List.getElem?_append_right (by omega), h, Nat.sub_self]; rfl

theorem numGo_row : ∀ (f n : Nat) (pre rest : List UInt8) (k acc : Nat), pre.length = k → k + (rowF n).length ≤ 9 → (rowF n).length ≤ f → (0 < k → 0 < n) →
    numGo (pre ++ (rowF n ++ rest)) f k acc = (true, acc + n * 128 ^ k, k + (rowF n).length)
  | 0, n, pre, rest, k, acc, _, _, hf, _ => by
    have := List.length_pos_iff.2 (rowF_ne n); omega
  | f + 1, n, pre, rest, k, acc, hp, hk, hf, h0 => by
    by_cases h : n < 128
    · rw [rowF_small h] at hk ⊢
      have hx : (pre ++ ([UInt8.ofNat n] ++ rest))[k]? = some (UInt8.ofNat n) := get_pre hp
      have e : (UInt8.ofNat n).toNat = n := ofNat_toNat (by omega)
      simp at hk
      rw [numGo_last hx (by omega) (by rw [e]; omega) (by rw [e]; exact h), e, Nat.mod_eq_of_lt h]
      rfl
    · rw [rowF_big h] at hk hf ⊢
      have hx : (pre ++ ((UInt8.ofNat (n % 128 + 128) :: rowF (n / 128)) ++ rest))[k]? = some (UInt8.ofNat (n % 128 + 128)) := get_pre hp
      have e : (UInt8.ofNat (n % 128 + 128)).toNat = n % 128 + 128 := ofNat_toNat (by omega)
      simp only [List.length_cons] at hk hf ⊢
      rw [numGo_more hx (by omega) (by rw [e]; omega) (by rw [e]; omega), e]
      have := numGo_row f (n / 128) (pre ++ [UInt8.ofNat (n % 128 + 128)]) rest (k + 1) (acc + (n % 128 + 128) % 128 * 128 ^ k) (by simp [hp]) (by omega) (by omega) (by omega)
      rw [List.append_assoc] at this
      simp only [List.cons_append, List.nil_append] at this ⊢
      rw [this]
      have e2 : n = n % 128 + 128 * (n / 128) := by omega
      have e3 : (n % 128 + 128) % 128 = n % 128 := by omega
      rw [e3, Nat.pow_succ]
      refine Prod.ext rfl (Prod.ext ?_ (by simp; omega))
      show acc + n % 128 * 128 ^ k + n / 128 * (128 ^ k * 128) = acc + n * 128 ^ k
      rw [show n / 128 * (128 ^ k * 128) = 128 * (n / 128) * 128 ^ k by rw [Nat.mul_comm (128 ^ k) 128, ← Nat.mul_assoc, Nat.mul_comm (n / 128) 128], Nat.add_assoc, ← Nat.add_mul, ← e2]

theorem numF_row (n : Nat) (hn : n ≤ 9223372036854775807) (nn no : Bool) (rest : List UInt8) : numF ⟨nn, rowF n ++ rest, no⟩ = (n, ⟨nn, rest, no⟩) := by
  have hl := rowF_len n hn
  have := numGo_row 10 n [] rest 0 0 rfl (by omega) (by omega) (by omega)
  simp only [List.nil_append, Nat.zero_add, Nat.pow_zero, Nat.mul_one] at this
  unfold numF
  rw [this]
  simp

theorem numGo_cut : ∀ (f n : Nat) (pre : List UInt8) (t k acc : Nat), pre.length = k → t < (rowF n).length → (numGo (pre ++ (rowF n).take t) f k acc).1 = false
  | 0, n, pre, t, k, acc, _, _ => rfl
  | f + 1, n, pre, t, k, acc, hp, ht => by
    cases t with
    | zero => rw [List.take_zero, List.append_nil, numGo_none (by omega)]
    | succ t =>
      by_cases h : n < 128
      · rw [rowF_small h] at ht; simp at ht
      · rw [rowF_big h] at ht ⊢
        rw [List.take_succ_cons]
        have hx : (pre ++ UInt8.ofNat (n % 128 + 128) :: (rowF (n / 128)).take t)[k]? = some (UInt8.ofNat (n % 128 + 128)) := get_pre hp
        have e : (UInt8.ofNat (n % 128 + 128)).toNat = n % 128 + 128 := ofNat_toNat (by omega)
        by_cases h8 : 8 < k
        · rw [numGo_far hx h8]
        · rw [numGo_more hx h8 (by rw [e]; omega) (by rw [e]; omega)]
          have := numGo_cut f (n / 128) (pre ++ [UInt8.ofNat (n % 128 + 128)]) t (k + 1) (acc + (UInt8.ofNat (n % 128 + 128)).toNat % 128 * 128 ^ k) (by simp [hp]) (by simpa using ht)
          rw [List.append_assoc] at this
          exact this
theorem numF_cut (n t : Nat) (ht : t < (rowF n).length) (nn no : Bool) : numF ⟨nn, (rowF n).take t, no⟩ = (0, Rd.fail) := by
  have := numGo_cut 10 n [] t 0 0 rfl ht
  unfold numF
  simp only [List.nil_append] at this
  rw [this]
  rfl

theorem numGo_back (b : List UInt8) : ∀ (f k acc : Nat), (numGo b f k acc).1 = true → ∃ m, (numGo b f k acc).2.1 = acc + m * 128 ^ k ∧ b.drop k = rowF m ++ b.drop (numGo b f k acc).2.2 ∧ (0 < k → 0 < m)
  | 0, k, acc, h => by simp [numGo] at h
  | f + 1, k, acc, h => by
    by_cases h1 : b.length ≤ k
    · rw [numGo_none h1] at h; cases h
    have hk : k < b.length := by omega
    have hx := List.getElem?_eq_getElem hk
    by_cases h2 : 8 < k
    · rw [numGo_far hx h2] at h; cases h
    by_cases h3 : 0 < k ∧ b[k].toNat = 0
    · rw [numGo_nought hx h2 h3] at h; cases h
    have hd := List.drop_eq_getElem_cons hk
    have hlt := b[k].toNat_lt
    by_cases h4 : b[k].toNat < 128
    · rw [numGo_last hx h2 h3 h4]
      refine ⟨b[k].toNat, by simp [Nat.mod_eq_of_lt h4], ?_, by omega⟩
      rw [rowF_small h4, hd]
      simp
    · rw [numGo_more hx h2 h3 h4] at h ⊢
      obtain ⟨m, e1, e2, e3⟩ := numGo_back b f _ _ h
      have hm := e3 (by omega)
      refine ⟨b[k].toNat % 128 + 128 * m, ?_, ?_, by omega⟩
      · rw [e1, Nat.pow_succ, Nat.add_mul, Nat.add_assoc]
        congr 2
        rw [Nat.mul_comm (128 ^ k) 128, ← Nat.mul_assoc, Nat.mul_comm m 128]
      · rw [rowF_big (by omega), hd, e2]
        have e4 : (b[k].toNat % 128 + 128 * m) % 128 + 128 = b[k].toNat := by omega
        have e5 : (b[k].toNat % 128 + 128 * m) / 128 = m := by omega
        rw [e4, e5, UInt8.ofNat_toNat]
        rfl
theorem numF_back {s : Rd} (hs : s.no = false) (h : (numF s).2.no = false) : s.b = rowF (numF s).1 ++ (numF s).2.b := by
  unfold numF at h ⊢
  cases hg : (numGo s.b 10 0 0).1 with
  | true =>
    obtain ⟨m, e1, e2, _⟩ := numGo_back s.b 10 0 0 hg
    simp only [hg, if_true]
    rw [e1]
    simp only [List.drop_zero] at e2
    simpa using e2
  | false => rw [hg] at h; cases h
theorem numF_dead {s : Rd} (hs : s.no = false) (h : (numF s).2.no = true) : (numF s).2 = Rd.fail := by
  unfold numF at h ⊢
  cases hg : (numGo s.b 10 0 0).1 with
  | true => rw [hg] at h; simp [hs] at h
  | false => rfl
theorem takeF_dead {s : Rd} (n : Nat) (hs : s.no = false) (h : (takeF s n).2.no = true) : (takeF s n).2 = Rd.fail := by
  unfold takeF at h ⊢
  split
  · rfl
  · rename_i hc; rw [if_neg hc] at h; simp [hs] at h
theorem takeF_ok {s : Rd} (n : Nat) (h : (takeF s n).2.no = false) : s.no = false ∧ n ≤ s.b.length ∧ takeF s n = ((s.nn, s.b.take n), ⟨s.nn, s.b.drop n, s.no⟩) := by
  unfold takeF at h ⊢
  split
  · rename_i hc; rw [if_pos hc] at h; cases h
  · rename_i hc
    simp only [Bool.or_eq_true, decide_eq_true_eq, not_or] at hc
    exact ⟨by simpa using hc.1, by omega, rfl⟩
theorem takeF_mk (nn : Bool) (a r : List UInt8) : takeF ⟨nn, a ++ r, false⟩ a.length = ((nn, a), ⟨nn, r, false⟩) := by
  unfold takeF
  rw [if_neg (by simp)]
  simp
theorem takeF_cut (nn : Bool) (l : List UInt8) (n : Nat) (h : l.length < n) : (takeF ⟨nn, l, false⟩ n) = ((false, []), Rd.fail) := by
  unfold takeF
  rw [if_pos (by simp [h])]

/-! ### Eight bytes -/
theorem beF_u64 (n : Nat) : ∀ k, k ≤ 8 → n < 18446744073709551616 → beF (u64F n) k = n / 2 ^ (64 - 8 * k)
  | 0, _, h => by rw [beF, Nat.div_eq_of_lt (by omega)]
  | k + 1, hk, h => by
    rw [beF, beF_u64 n k (by omega) h, u64F_get n k (by omega)]
    have e : (64 - 8 * k) = (56 - 8 * k) + 8 := by omega
    have e2 : 64 - 8 * (k + 1) = 56 - 8 * k := by omega
    rw [e, e2, Nat.pow_add, ← Nat.div_div_eq_div_mul]
    simp
    omega
theorem beF_split (l : List UInt8) (i : Nat) : ∀ j, beF l (i + j) / 256 ^ j = beF l i
  | 0 => by simp
  | j + 1 => by
    have ih := beF_split l i j
    have hlt : ((l[i + j]?).map UInt8.toNat).getD 0 < 256 := by
      cases l[i + j]? with
      | none => simp
      | some d => exact d.toNat_lt
    rw [← Nat.add_assoc, beF, Nat.pow_succ, Nat.mul_comm (256 ^ j) 256, ← Nat.div_div_eq_div_mul, ← ih]
    congr 1
    omega
theorem u64_beF (l : List UInt8) (hl : l.length = 8) : u64F (beF l 8) = l := by
  apply List.ext_getElem?
  intro i
  by_cases hi : i < 8
  · rw [u64F_get _ _ hi]
    have hx := List.getElem?_eq_getElem (l := l) (i := i) (by omega)
    rw [hx]
    congr 1
    have h1 := beF_split l (i + 1) (7 - i)
    have e1 : i + 1 + (7 - i) = 8 := by omega
    have e2 : 256 ^ (7 - i) = 2 ^ (56 - 8 * i) := by
      rw [show (256 : Nat) = 2 ^ 8 from rfl, ← Nat.pow_mul]
      congr 1; omega
    rw [e1, e2] at h1
    rw [h1, beF, hx]
    simp only [Option.map_some, Option.getD_some]
    apply UInt8.toNat_inj.1
    rw [UInt8.toNat_ofNat']
    have := l[i].toNat_lt
    omega
  · rw [List.getElem?_eq_none (by rw [u64F_len]; omega), List.getElem?_eq_none (by omega)]

/-! ### What was laid is read -/
theorem step_back {p : Part} (h : p.Ok) (h0 : 0 ≤ p.n) (nn : Bool) (rest : List UInt8) : step ⟨nn, encP p ++ rest, false⟩ p = (true, ⟨nn, rest, false⟩) := by
  have hn := h.n2
  have hs := h.len
  unfold step encP
  by_cases c0 : kindF p.d = 0
  · rw [if_pos c0, if_pos c0, numF_row _ (by omega)]
    have e : ((p.n.toNat : Nat) : Int) = p.n := by omega
    simp [e]
  rw [if_neg c0, if_neg c0]
  by_cases c1 : kindF p.d = 1
  · rw [if_pos c1, if_pos c1]
    have := takeF_mk nn (u64F p.u) rest
    rw [u64F_len] at this
    unfold u64R
    rw [this, u64F_len, beF_u64 _ _ (by omega) h.u]
    simp
  rw [if_neg c1, if_neg c1]
  by_cases c2 : kindF p.d = 2
  · rw [if_pos c2, if_pos c2]
    unfold bytesF
    rw [List.append_assoc, numF_row _ (by omega)]
    simp only [Bool.false_eq_true, if_false]
    rw [takeF_mk]
    simp
  · rw [if_neg c2, if_neg c2]
    have := takeF_mk nn p.sum rest
    rw [h.sum] at this
    unfold hashF
    rw [this]
    simp [h.sum]
theorem readF_back (nn : Bool) (rest : List UInt8) : ∀ (l : List Part), (∀ p, p ∈ l → p.Ok ∧ 0 ≤ p.n) → readF ⟨nn, laidF l ++ rest, false⟩ l = (true, ⟨nn, rest, false⟩)
  | [], _ => by simp [readF, laidF]
  | p :: l, h => by
    obtain ⟨h1, h2⟩ := h p (List.mem_cons_self ..)
    rw [laidF_cons, List.append_assoc, readF, step_back h1 h2]
    simp only [Bool.true_eq_false, Bool.false_eq_true, or_self, if_false]
    exact readF_back nn rest l fun q hq => h q (List.mem_cons_of_mem _ hq)

/-! ### What is cut off is not -/
theorem step_cut {p : Part} (h : p.Ok) (h0 : 0 ≤ p.n) (nn : Bool) (t : Nat) (ht : t < (encP p).length) : (step ⟨nn, (encP p).take t, false⟩ p).2 = Rd.fail := by
  have hn := h.n2
  have hs := h.len
  unfold step
  unfold encP at ht ⊢
  by_cases c0 : kindF p.d = 0
  · rw [if_pos c0] at ht
    rw [if_pos c0, if_pos c0, numF_cut _ _ ht]
  rw [if_neg c0] at ht
  rw [if_neg c0, if_neg c0]
  by_cases c1 : kindF p.d = 1
  · rw [if_pos c1] at ht
    rw [if_pos c1, if_pos c1]
    unfold u64R
    rw [u64F_len] at ht
    rw [takeF_cut _ _ _ (by simp; omega)]
  rw [if_neg c1] at ht
  rw [if_neg c1, if_neg c1]
  by_cases c2 : kindF p.d = 2
  · rw [if_pos c2] at ht
    rw [if_pos c2, if_pos c2]
    unfold bytesF
    by_cases hr : t < (rowF p.some.length).length
    · rw [List.take_append_of_le_length (by omega), numF_cut _ _ hr]
      rfl
    · rw [List.take_append, List.take_of_length_le (by omega), numF_row _ (by omega)]
      simp only [Bool.false_eq_true, if_false]
      simp only [List.length_append] at ht
      rw [takeF_cut _ _ _ (by simp; omega)]
  · rw [if_neg c2] at ht
    rw [if_neg c2, if_neg c2]
    unfold hashF
    rw [h.sum] at ht
    rw [takeF_cut _ _ _ (by simp; omega)]
theorem readF_cut (nn : Bool) : ∀ (l : List Part) (t : Nat), (∀ p, p ∈ l → p.Ok ∧ 0 ≤ p.n) → t < (laidF l).length → readF ⟨nn, (laidF l).take t, false⟩ l = (false, Rd.fail)
  | [], t, _, ht => by simp [laidF] at ht
  | p :: l, t, h, ht => by
    obtain ⟨h1, h2⟩ := h p (List.mem_cons_self ..)
    rw [laidF_cons] at ht ⊢
    by_cases hr : t < (encP p).length
    · rw [List.take_append_of_le_length (by omega), readF, step_cut h1 h2 nn t hr]
      simp [Rd.fail]
    · rw [List.take_append, List.take_of_length_le (by omega), readF, step_back h1 h2]
      simp only [Bool.true_eq_false, Bool.false_eq_true, or_self, if_false]
      simp only [List.length_append] at ht
      exact readF_cut nn l _ (fun q hq => h q (List.mem_cons_of_mem _ hq)) (by omega)

/-! ### What is read would be laid so -/
def readOne (s : Rd) (d : Int) : Part × Rd :=
  if kindF d = 0 then (⟨d, ((numF s).1 : Int), 0, false, [], List.replicate 32 0⟩, (numF s).2)
  else if kindF d = 1 then (⟨d, 0, (u64R s).1, false, [], List.replicate 32 0⟩, (u64R s).2)
  else if kindF d = 2 then (⟨d, 0, 0, (bytesF s).1.1, (bytesF s).1.2, List.replicate 32 0⟩, (bytesF s).2)
  else (⟨d, 0, 0, false, [], (hashF s).1⟩, (hashF s).2)
theorem u64R_lt (s : Rd) : (u64R s).1 < 18446744073709551616 := beF_lt8 _ _ (takeF_len s 8)
theorem hashF_len (s : Rd) : (hashF s).1.length = 32 := by
  unfold hashF
  split
  · assumption
  · simp
theorem takeF_nn (s : Rd) (n : Nat) (hw : s.nn = false → s.b = []) : (takeF s n).1.1 = false → (takeF s n).1.2 = [] := by
  unfold takeF
  split
  · intro _; rfl
  · intro e; simp [hw e]
theorem bytesF_nn (s : Rd) (hw : s.nn = false → s.b = []) : (bytesF s).1.1 = false → (bytesF s).1.2 = [] := by
  unfold bytesF
  split
  · intro _; rfl
  · exact takeF_nn _ _ (numF_wf s hw)
theorem readOne_ok (s : Rd) (d : Int) (h1 : -9223372036854775808 ≤ d) (h2 : d ≤ 9223372036854775807) (hw : s.nn = false → s.b = []) (hl : s.b.length ≤ 1000) :
    (readOne s d).1.Ok ∧ (readOne s d).1.some.length ≤ 1000 ∧ 0 ≤ (readOne s d).1.n ∧ (readOne s d).2.b.length ≤ 1000 ∧ ((readOne s d).2.nn = false → (readOne s d).2.b = []) := by
  have a1 := numF_lt s
  have a2 := u64R_lt s
  have a3 := bytesF_len1 s
  have a4 := hashF_len s
  have z : (List.replicate 32 (0 : UInt8)).length = 32 := by simp
  unfold readOne
  split
  · exact ⟨⟨h1, h2, by simp <;> omega, by simp <;> omega, by simp, fun _ => rfl, by simp, z⟩, by simp, by simp, Nat.le_trans (numF_len s) hl, numF_wf s hw⟩
  split
  · exact ⟨⟨h1, h2, by simp, by simp, a2, fun _ => rfl, by simp, z⟩, by simp, by simp, Nat.le_trans (takeF_blen0 s) hl, takeF_wf s 8 hw⟩
  split
  · exact ⟨⟨h1, h2, by simp, by simp, by simp, bytesF_nn s hw, by show (bytesF s).1.2.length ≤ _; omega, z⟩, by show (bytesF s).1.2.length ≤ _; omega, by simp, Nat.le_trans (bytesF_blen s) hl, bytesF_wf s hw⟩
  · exact ⟨⟨h1, h2, by simp, by simp, by simp, fun _ => rfl, by simp, a4⟩, by simp, by simp, Nat.le_trans (hashF_blen s) hl, takeF_wf s 32 hw⟩
theorem bytesF_dead {s : Rd} (hs : s.no = false) (h : (bytesF s).2.no = true) : (bytesF s).2 = Rd.fail := by
  unfold bytesF at h ⊢
  split
  · rename_i hc; exact numF_dead hs hc
  · rename_i hc; rw [if_neg hc] at h; exact takeF_dead _ (by simpa using hc) h
theorem readOne_dead {s : Rd} (d : Int) (hs : s.no = false) (h : (readOne s d).2.no = true) : (readOne s d).2 = Rd.fail := by
  unfold readOne at h ⊢
  split
  · rename_i c; rw [if_pos c] at h; exact numF_dead hs h
  rename_i c; rw [if_neg c] at h
  split
  · rename_i c; rw [if_pos c] at h; exact takeF_dead 8 hs h
  rename_i c; rw [if_neg c] at h
  split
  · rename_i c; rw [if_pos c] at h; exact bytesF_dead hs h
  · rename_i c; rw [if_neg c] at h; exact takeF_dead 32 hs h
theorem readOne_back {s : Rd} (d : Int) (hs : s.no = false) (h : (readOne s d).2.no = false) : s.b = encP (readOne s d).1 ++ (readOne s d).2.b := by
  unfold readOne at h ⊢
  by_cases c0 : kindF d = 0
  · rw [if_pos c0] at h ⊢
    unfold encP
    rw [if_pos c0]
    simpa using numF_back hs h
  rw [if_neg c0] at h ⊢
  by_cases c1 : kindF d = 1
  · rw [if_pos c1] at h ⊢
    unfold encP
    rw [if_neg c0, if_pos c1]
    obtain ⟨_, h2, h3⟩ := takeF_ok 8 h
    show s.b = u64F (u64R s).1 ++ (takeF s 8).2.b
    unfold u64R
    rw [h3]
    have e : (s.b.take 8).length = 8 := by simp; omega
    simp only [e]
    rw [u64_beF _ e, List.take_append_drop]
  rw [if_neg c1] at h ⊢
  by_cases c2 : kindF d = 2
  · rw [if_pos c2] at h ⊢
    unfold encP
    rw [if_neg c0, if_neg c1, if_pos c2]
    show s.b = (rowF (bytesF s).1.2.length ++ (bytesF s).1.2) ++ (bytesF s).2.b
    unfold bytesF at h ⊢
    by_cases hc : (numF s).2.no = true
    · rw [if_pos hc] at h; rw [hc] at h; cases h
    · rw [if_neg hc] at h ⊢
      obtain ⟨h1, h2, h3⟩ := takeF_ok _ h
      have hb := numF_back hs h1
      rw [h3]
      have e : ((numF s).2.b.take (numF s).1).length = (numF s).1 := by simp; omega
      simp only [e]
      rw [List.append_assoc, List.take_append_drop]
      exact hb
  · rw [if_neg c2] at h ⊢
    unfold encP
    rw [if_neg c0, if_neg c1, if_neg c2]
    show s.b = (hashF s).1 ++ (takeF s 32).2.b
    obtain ⟨_, h2, h3⟩ := takeF_ok 32 h
    unfold hashF
    rw [h3]
    have e : (s.b.take 32).length = 32 := by simp; omega
    rw [if_pos e, List.take_append_drop]
end Go.Proofs.Ytpgogpohkldhaaa
