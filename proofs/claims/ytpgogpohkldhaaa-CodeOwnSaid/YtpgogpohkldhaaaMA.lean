/- What layer 8 (code) computes, in plain Lean. -/
import Derived.Test.YtpgogpohkldhaaaEvX
set_option linter.unusedVariables false
set_option linter.unusedSimpArgs false
namespace Go.Proofs.Ytpgogpohkldhaaa
open Go.Ev

def rowF (n : Nat) : List UInt8 := if h : n < 128 then [UInt8.ofNat n] else UInt8.ofNat (n % 128 + 128) :: rowF (n / 128)
termination_by n
decreasing_by omega
def rowInit (n : Nat) : List UInt8 := if h : n < 128 then [] else UInt8.ofNat (n % 128 + 128) :: rowInit (n / 128)
termination_by n
decreasing_by omega
def rowLast (n : Nat) : Nat := if h : n < 128 then n else rowLast (n / 128)
termination_by n
decreasing_by omega
theorem rowInit_small {n : Nat} (h : n < 128) : rowInit n = [] := by rw [rowInit, dif_pos h]
theorem rowLast_small {n : Nat} (h : n < 128) : rowLast n = n := by rw [rowLast, dif_pos h]
theorem rowInit_big {n : Nat} (h : ¬ n < 128) : rowInit n = UInt8.ofNat (n % 128 + 128) :: rowInit (n / 128) := by rw [rowInit, dif_neg h]
theorem rowLast_big {n : Nat} (h : ¬ n < 128) : rowLast n = rowLast (n / 128) := by rw [rowLast, dif_neg h]
theorem rowF_small {n : Nat} (h : n < 128) : rowF n = [UInt8.ofNat n] := by rw [rowF, dif_pos h]
theorem rowF_big {n : Nat} (h : ¬ n < 128) : rowF n = UInt8.ofNat (n % 128 + 128) :: rowF (n / 128) := by rw [rowF, dif_neg h]
theorem rowLast_lt (n : Nat) : rowLast n < 128 := by
  induction n using Nat.strongRecOn with
  | _ n ih =>
    by_cases h : n < 128
    · rw [rowLast_small h]; exact h
    · rw [rowLast_big h]; exact ih _ (by omega)
theorem rowF_eq (n : Nat) : rowF n = rowInit n ++ [UInt8.ofNat (rowLast n)] := by
  induction n using Nat.strongRecOn with
  | _ n ih =>
    by_cases h : n < 128
    · rw [rowLast_small h, rowInit_small h, rowF_small h]; rfl
    · rw [rowLast_big h, rowInit_big h, rowF_big h, ih _ (by omega)]; rfl
theorem rowInit_lt : ∀ (j n : Nat), n < 128 ^ (j + 1) → (rowInit n).length ≤ j
  | 0, n, h => by rw [rowInit_small (by omega)]; exact Nat.le_refl _
  | j + 1, n, h => by
    by_cases h0 : n < 128
    · rw [rowInit_small h0]; exact Nat.zero_le _
    · rw [rowInit_big h0]
      have := rowInit_lt j (n / 128) (by rw [Nat.pow_succ] at h; omega)
      simp only [List.length_cons]
      omega
theorem rowInit_len (n : Nat) (h : n ≤ 9223372036854775807) : (rowInit n).length ≤ 8 := rowInit_lt 8 n (by omega)
theorem rowF_len (n : Nat) (h : n ≤ 9223372036854775807) : (rowF n).length ≤ 9 := by
  rw [rowF_eq]
  have := rowInit_len n h
  simp
  omega
end Go.Proofs.Ytpgogpohkldhaaa
namespace Go.Proofs.Ytpgogpohkldhaaa
open Go.Ev
def hashP (s : List UInt8) : Pl := .arr 32 1 (s.map u8)
/-- a number's eight bytes -/
def u64F (n : Nat) : List UInt8 := (List.range 8).map fun i => UInt8.ofNat (n / 2 ^ (56 - 8 * i))
def u64L (n k : Nat) : List Pl := (List.range 8).map fun i => if i < k then .int .u8 (IntKind.u8.wrap ((n : Int) / 2 ^ (56 - 8 * i))) else .int .u8 0
theorem u64F_len (n : Nat) : (u64F n).length = 8 := by simp [u64F]
theorem u64L_len (n k : Nat) : (u64L n k).length = 8 := by simp [u64L]
theorem u64L_get (n k : Nat) (hk : k < 8) : (u64L n k)[k]? = some (.int .u8 0) := by simp [u64L, hk]
theorem u64L_zero (n : Nat) : u64L n 0 = List.replicate 8 (.int .u8 0) := by simp [u64L]; rfl
theorem u64L_set (n k : Nat) (hk : k < 8) : (u64L n k).set k (.int .u8 (IntKind.u8.wrap ((n : Int) / 2 ^ (56 - 8 * k)))) = u64L n (k + 1) := by
  apply List.ext_getElem?
  intro i
  rw [List.getElem?_set]
  by_cases hi : i < 8
  · by_cases hik : k = i
    · subst hik
      simp [u64L, hk]
    · simp only [hik, if_false]
      simp [u64L, hi]
      have : i < k ↔ i < k + 1 := by omega
      simp [this]
  · simp [u64L, hi, hk]
    intro h; omega
theorem wrap_u8 (n : Nat) : IntKind.u8.wrap (n : Int) = ((UInt8.ofNat n).toNat : Int) := by
  simp [IntKind.wrap, IntKind.signed, IntKind.bits]
theorem u64F_map (n : Nat) : (u64F n).map u8 = u64L n 8 := by
  unfold u64F u64L
  rw [List.map_map]
  apply List.map_congr_left
  intro i hi
  have hi8 : i < 8 := List.mem_range.1 hi
  simp only [Function.comp, hi8, if_true, u8]
  rw [← wrap_u8]
  simp
/-- a reader -/
structure Rd where
  nn : Bool
  b : List UInt8
  no : Bool
def Rd.fail : Rd := ⟨false, [], true⟩
def rdP (s : Rd) : Pl := .agg [bytesP s.nn s.b, .bool s.no]
def takeF (s : Rd) (n : Nat) : (Bool × List UInt8) × Rd := if s.no || decide (s.b.length < n) then ((false, []), Rd.fail) else ((s.nn, s.b.take n), ⟨s.nn, s.b.drop n, s.no⟩)
theorem beq0 (d : UInt8) : ((d.toNat : Int) == (0 : Int)) = decide (d.toNat = 0) := by
  rw [Bool.eq_iff_iff, beq_iff_eq, decide_eq_true_iff]
  omega
theorem digit_lt (n k : Nat) (d : UInt8) (hn : n < 128 ^ k) (hk : k ≤ 8) : n + d.toNat % 128 * 128 ^ k < 9223372036854775808 := by
  have h1 : d.toNat % 128 * 128 ^ k ≤ 127 * 128 ^ k := Nat.mul_le_mul_right _ (by omega)
  have h2 : 128 ^ (k + 1) ≤ 128 ^ 9 := Nat.pow_le_pow_right (by omega) (by omega)
  rw [Nat.pow_succ] at h2
  omega
theorem digit_eq (k : Nat) (d : UInt8) : ((d.toNat : Int) % (128 : Int)) * 2 ^ ((7 : Int) * ((k : Nat) : Int)).toNat = ((d.toNat % 128 * 128 ^ k : Nat) : Int) := by
  have h : ((7 : Int) * (k : Int)).toNat = 7 * k := by omega
  have e : (128 : Nat) ^ k = 2 ^ (7 * k) := by rw [Nat.pow_mul]
  rw [h, e, Int.natCast_mul, Int.natCast_emod, Int.natCast_pow]
  rfl
theorem digit_or (n k : Nat) (d : UInt8) (hn : n < 128 ^ k) : ((((n : Int).toNat ||| ((d.toNat % 128 * 128 ^ k : Nat) : Int).toNat : Nat)) : Int) = ((n + d.toNat % 128 * 128 ^ k : Nat) : Int) := by
  congr 1
  simp only [Int.toNat_natCast]
  have e : 128 ^ k = 2 ^ (7 * k) := by rw [Nat.pow_mul]
  rw [e] at hn ⊢
  have := Nat.two_pow_add_eq_or_of_lt hn (d.toNat % 128)
  rw [Nat.mul_comm, Nat.or_comm, ← this]
  omega
theorem digit_lt2 (n k : Nat) (d : UInt8) (hn : n < 128 ^ k) : n + d.toNat % 128 * 128 ^ k < 128 ^ (k + 1) := by
  have h1 : d.toNat % 128 * 128 ^ k ≤ 127 * 128 ^ k := Nat.mul_le_mul_right _ (by omega)
  rw [Nat.pow_succ]
  omega
/-- the number that stands next: whether there is one, the number, how many bytes it takes -/
def numGo (b : List UInt8) : Nat → Nat → Nat → Bool × Nat × Nat
  | 0, k, _ => (false, 0, k)
  | f + 1, k, n => match b[k]? with
    | none => (false, 0, k)
    | some d => if 8 < k ∨ (0 < k ∧ d.toNat = 0) then (false, 0, k) else if d.toNat < 128 then (true, n + d.toNat % 128 * 128 ^ k, k + 1) else numGo b f (k + 1) (n + d.toNat % 128 * 128 ^ k)
theorem numGo_none {b : List UInt8} {f k n : Nat} (h : b.length ≤ k) : numGo b (f + 1) k n = (false, 0, k) := by
  simp [numGo, List.getElem?_eq_none h]
theorem numGo_far {b : List UInt8} {f k n : Nat} {d : UInt8} (hx : b[k]? = some d) (h : 8 < k) : numGo b (f + 1) k n = (false, 0, k) := by
  simp [numGo, hx, h]
theorem numGo_nought {b : List UInt8} {f k n : Nat} {d : UInt8} (hx : b[k]? = some d) (_ : ¬ 8 < k) (h : 0 < k ∧ d.toNat = 0) : numGo b (f + 1) k n = (false, 0, k) := by
  rw [numGo, hx]
  exact if_pos (.inr h)
theorem numGo_last {b : List UInt8} {f k n : Nat} {d : UInt8} (hx : b[k]? = some d) (h2 : ¬ 8 < k) (h3 : ¬ (0 < k ∧ d.toNat = 0)) (h4 : d.toNat < 128) : numGo b (f + 1) k n = (true, n + d.toNat % 128 * 128 ^ k, k + 1) := by
  rw [numGo, hx]
  show (if 8 < k ∨ (0 < k ∧ d.toNat = 0) then _ else _) = _
  rw [if_neg (by rintro (h | h); exact h2 h; exact h3 h), if_pos h4]
theorem numGo_more {b : List UInt8} {f k n : Nat} {d : UInt8} (hx : b[k]? = some d) (h2 : ¬ 8 < k) (h3 : ¬ (0 < k ∧ d.toNat = 0)) (h4 : ¬ d.toNat < 128) : numGo b (f + 1) k n = numGo b f (k + 1) (n + d.toNat % 128 * 128 ^ k) := by
  rw [numGo, hx]
  show (if 8 < k ∨ (0 < k ∧ d.toNat = 0) then _ else _) = _
  rw [if_neg (by rintro (h | h); exact h2 h; exact h3 h), if_neg h4]
def numF (s : Rd) : Nat × Rd := if (numGo s.b 10 0 0).1 then ((numGo s.b 10 0 0).2.1, ⟨s.nn, s.b.drop (numGo s.b 10 0 0).2.2, s.no⟩) else (0, Rd.fail)
theorem numGo_le (b : List UInt8) : ∀ (f k n : Nat), (numGo b f k n).1 = true → (numGo b f k n).2.2 ≤ b.length
  | 0, k, n, h => by simp [numGo] at h
  | f + 1, k, n, h => by
    by_cases h1 : b.length ≤ k
    · rw [numGo_none h1] at h; cases h
    have hx := List.getElem?_eq_getElem (Nat.lt_of_not_le h1)
    by_cases h2 : 8 < k
    · rw [numGo_far hx h2] at h; cases h
    by_cases h3 : 0 < k ∧ b[k].toNat = 0
    · rw [numGo_nought hx h2 h3] at h; cases h
    by_cases h4 : b[k].toNat < 128
    · rw [numGo_last hx h2 h3 h4]; simp; omega
    · rw [numGo_more hx h2 h3 h4] at h ⊢
      exact numGo_le b f _ _ h
theorem numGo_lt (b : List UInt8) : ∀ (f k n : Nat), n < 128 ^ k → k ≤ 9 → (numGo b f k n).2.1 ≤ 9223372036854775807
  | 0, k, n, h, _ => by simp [numGo]
  | f + 1, k, n, h, hk => by
    by_cases h1 : b.length ≤ k
    · rw [numGo_none h1]; simp
    have hx := List.getElem?_eq_getElem (Nat.lt_of_not_le h1)
    by_cases h2 : 8 < k
    · rw [numGo_far hx h2]; simp
    by_cases h3 : 0 < k ∧ b[k].toNat = 0
    · rw [numGo_nought hx h2 h3]; simp
    by_cases h4 : b[k].toNat < 128
    · rw [numGo_last hx h2 h3 h4]
      have := digit_lt n k b[k] h (by omega)
      show n + b[k].toNat % 128 * 128 ^ k ≤ _
      omega
    · rw [numGo_more hx h2 h3 h4]
      exact numGo_lt b f _ _ (digit_lt2 n k _ h) (by omega)
theorem numF_lt (s : Rd) : (numF s).1 ≤ 9223372036854775807 := by
  unfold numF
  split
  · exact numGo_lt s.b 10 0 0 (by omega) (by omega)
  · simp
theorem numF_len (s : Rd) : (numF s).2.b.length ≤ s.b.length := by
  unfold numF
  split <;> simp [Rd.fail]
theorem numF_wf (s : Rd) (h : s.nn = false → s.b = []) : (numF s).2.nn = false → (numF s).2.b = [] := by
  unfold numF
  split
  · intro e; simp [h e]
  · intro _; rfl
def bytesF (s : Rd) : (Bool × List UInt8) × Rd := if (numF s).2.no then ((false, []), (numF s).2) else takeF (numF s).2 (numF s).1
def beF (l : List UInt8) : Nat → Nat
  | 0 => 0
  | k + 1 => beF l k * 256 + ((l[k]?).map UInt8.toNat).getD 0
theorem beF_lt0 (l : List UInt8) : ∀ k, beF l k < 256 ^ k
  | 0 => by simp [beF]
  | k + 1 => by
    have := beF_lt0 l k
    have h : ((l[k]?).map UInt8.toNat).getD 0 < 256 := by
      cases l[k]? with
      | none => simp
      | some d => exact d.toNat_lt
    rw [beF, Nat.pow_succ]
    omega
theorem beF_lt (l : List UInt8) (k : Nat) (hk : k ≤ 7) : beF l k < 72057594037927936 := by
  have h1 := beF_lt0 l k
  have h2 : 256 ^ k ≤ 256 ^ 7 := Nat.pow_le_pow_right (by omega) hk
  omega
theorem beF_lt8 (l : List UInt8) (k : Nat) (hk : k ≤ 8) : beF l k < 18446744073709551616 := by
  have h1 := beF_lt0 l k
  have h2 : 256 ^ k ≤ 256 ^ 8 := Nat.pow_le_pow_right (by omega) hk
  omega
theorem beF_or (l : List UInt8) (k : Nat) (d : UInt8) (hx : l[k]? = some d) : ((((((beF l k : Nat) : Int)) * 2 ^ (8 : Int).toNat).toNat ||| ((d.toNat : Int)).toNat : Nat) : Int) = ((beF l (k + 1) : Nat) : Int) := by
  congr 1
  have e : ((((beF l k : Nat) : Int)) * 2 ^ (8 : Int).toNat).toNat = 2 ^ 8 * beF l k := by
    have : (8 : Int).toNat = 8 := rfl
    rw [this]
    omega
  rw [e, Int.toNat_natCast, ← Nat.two_pow_add_eq_or_of_lt (by have := d.toNat_lt; omega), beF, hx]
  simp
  omega
theorem takeF_len (s : Rd) (n : Nat) : (takeF s n).1.2.length ≤ n := by
  unfold takeF
  split
  · simp
  · simp; omega
def u64R (s : Rd) : Nat × Rd := (beF (takeF s 8).1.2 (takeF s 8).1.2.length, (takeF s 8).2)
def hashF (s : Rd) : List UInt8 × Rd := (if (takeF s 32).1.2.length = 32 then (takeF s 32).1.2 else List.replicate 32 0, (takeF s 32).2)
theorem takeF_full (s : Rd) (n : Nat) : (takeF s n).1.2.length = n ∨ (takeF s n).1.2 = [] := by
  unfold takeF
  split
  · exact .inr rfl
  · rename_i h
    simp at h
    left
    simp
    omega
theorem hash_laid (s : Rd) : Pl.arr 32 1 (laidAt (List.replicate 32 (.int .u8 0)) ((takeF s 32).1.2.map u8) 0) = hashP (hashF s).1 := by
  unfold hashP
  congr 1
  unfold hashF laidAt
  rcases takeF_full s 32 with h | h
  · rw [if_pos h]
    simp [h]
  · rw [h]
    simp [u8]
theorem bne_u8 {d e : UInt8} (h : ¬ d = e) : ((d.toNat : Int) != (e.toNat : Int)) = true := by
  rw [bne_iff_ne]
  intro e1
  exact h (UInt8.toNat_inj.1 (by omega))
theorem rowF_ne (n : Nat) : rowF n ≠ [] := by
  rw [rowF_eq]
  simp
theorem take_step {s : List UInt8} {k : Nat} {d : UInt8} (hx : s[k]? = some d) : s.take (k + 1) = s.take k ++ [d] := by
  rw [List.take_add_one, hx]
  rfl
theorem u64F_get (n k : Nat) (hk : k < 8) : (u64F n)[k]? = some (UInt8.ofNat (n / 2 ^ (56 - 8 * k))) := by simp [u64F, hk]
theorem u64F_take (n k : Nat) (hk : k < 8) : (u64F n).take (k + 1) = (u64F n).take k ++ [UInt8.ofNat (n / 2 ^ (56 - 8 * k))] := take_step (u64F_get n k hk)
theorem u64F_all (n : Nat) : (u64F n).take 8 = u64F n := List.take_of_length_le (Nat.le_of_eq (u64F_len n))
theorem u64F_wrap (n k : Nat) : IntKind.u8.wrap ((n : Int) / 2 ^ (56 - 8 * k)) = ((n / 2 ^ (56 - 8 * k) % 256 : Nat) : Int) := by
  have := wrap_u8 (n / 2 ^ (56 - 8 * k))
  simpa using this
/-- the document's: as takeF, but what is there is never nil -/
def nextF (s : Rd) (n : Nat) : (Bool × List UInt8) × Rd := if s.no || decide (s.b.length < n) then ((false, []), Rd.fail) else ((true, s.b.take n), ⟨s.nn, s.b.drop n, s.no⟩)
theorem nextF_len (s : Rd) (n : Nat) : (nextF s n).1.2.length ≤ n := by
  unfold nextF
  split
  · simp
  · simp; omega
theorem nextF_full (s : Rd) (n : Nat) : (nextF s n).1.2.length = n ∨ (nextF s n).1.2 = [] := by
  unfold nextF
  split
  · exact .inr rfl
  · rename_i h
    simp at h
    left
    simp
    omega
def ru64R (s : Rd) : Nat × Rd := (beF (nextF s 8).1.2 (nextF s 8).1.2.length, (nextF s 8).2)
theorem beF_add (l : List UInt8) (k : Nat) (d : UInt8) (hx : l[k]? = some d) : (256 : Int) * ((beF l k : Nat) : Int) + (d.toNat : Int) = ((beF l (k + 1) : Nat) : Int) := by
  rw [beF, hx]
  simp
  omega
theorem wrap_pow (k : Nat) (hk : k ≤ 8) : IntKind.i64.wrap ((128 ^ k : Nat) : Int) = ((128 ^ k : Nat) : Int) := by
  have h2 : 128 ^ k ≤ 128 ^ 8 := Nat.pow_le_pow_right (by omega) hk
  rw [IntKind.wrap_i64]
  generalize 128 ^ k = x at *
  omega
theorem digit_mul (k : Nat) (d : UInt8) : ((d.toNat : Int) % (128 : Int)) * ((128 ^ k : Nat) : Int) = ((d.toNat % 128 * 128 ^ k : Nat) : Int) := by
  rw [Int.natCast_mul, Int.natCast_emod]
  rfl
theorem pow_more (k : Nat) : (128 : Int) * ((128 ^ k : Nat) : Int) = ((128 ^ (k + 1) : Nat) : Int) := by
  rw [Nat.pow_succ]
  omega
theorem digit_sum (n k : Nat) (d : UInt8) : (n : Int) + ((d.toNat % 128 * 128 ^ k : Nat) : Int) = ((n + d.toNat % 128 * 128 ^ k : Nat) : Int) := by omega
end Go.Proofs.Ytpgogpohkldhaaa
