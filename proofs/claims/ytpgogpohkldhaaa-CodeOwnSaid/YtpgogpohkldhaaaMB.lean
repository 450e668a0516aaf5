/- What the statements of layer 8 (code) lay and read, in plain Lean. -/
import Derived.Test.YtpgogpohkldhaaaMA
import Derived.Test.YtpgogpohkldhaaaEvY
set_option linter.unusedVariables false
set_option linter.unusedSimpArgs false
namespace Go.Proofs.Ytpgogpohkldhaaa
open Go.Ev

structure Part where
  d : Int
  n : Int
  u : Nat
  nn : Bool
  some : List UInt8
  sum : List UInt8
def partP (p : Part) : Pl := .agg [.int .i64 p.d, .int .i64 p.n, .int .u64 (p.u : Int), bytesP p.nn p.some, hashP p.sum]
structure Part.Ok (p : Part) : Prop where
  d1 : -9223372036854775808 ≤ p.d
  d2 : p.d ≤ 9223372036854775807
  n1 : -9223372036854775808 ≤ p.n
  n2 : p.n ≤ 9223372036854775807
  u : p.u < 18446744073709551616
  nn : p.nn = false → p.some = []
  len : p.some.length ≤ 9223372036854775807
  sum : p.sum.length = 32
def partsP (nn : Bool) (l : List Part) : Pl := .sl nn 36 (l.map partP)
def kindF (d : Int) : Int := d % 4
theorem kind_bits (d : Int) (h1 : -9223372036854775808 ≤ d) (h2 : d ≤ 9223372036854775807) : bits .and .i64 d 3 = kindF d := by
  show IntKind.i64.wrap ((BitVec.ofInt 64 d &&& BitVec.ofInt 64 3).toNat : Int) = _
  rw [BitVec.toNat_and]
  have e3 : (BitVec.ofInt 64 3).toNat = 2 ^ 2 - 1 := rfl
  rw [e3, Nat.and_two_pow_sub_one_eq_mod, BitVec.toNat_ofInt, IntKind.wrap_i64]
  unfold kindF
  omega
theorem kind_range (d : Int) : 0 ≤ kindF d ∧ kindF d < 4 := by unfold kindF; omega
def putF (l : List UInt8) (n : Int) : List UInt8 := if n < 0 then l else l ++ rowF n.toNat
def encP (p : Part) : List UInt8 := if kindF p.d = 0 then rowF p.n.toNat else if kindF p.d = 1 then u64F p.u else if kindF p.d = 2 then rowF p.some.length ++ p.some else p.sum
def laidF (l : List Part) : List UInt8 := (l.map encP).flatten
theorem laidF_nil : laidF [] = [] := rfl
theorem laidF_take {l : List Part} {k : Nat} {p : Part} (hx : l[k]? = .some p) : laidF (l.take (k + 1)) = laidF (l.take k) ++ encP p := by
  unfold laidF
  rw [List.take_add_one, hx]
  simp
theorem laidF_cons (p : Part) (l : List Part) : laidF (p :: l) = encP p ++ laidF l := rfl
theorem encP_len {p : Part} (h : p.Ok) (hs : p.some.length ≤ 1000) : (encP p).length ≤ 1009 := by
  unfold encP
  have h1 := h.n2
  split
  · have := rowF_len p.n.toNat (by omega); omega
  split
  · rw [u64F_len]; omega
  split
  · have := rowF_len p.some.length (by omega); simp; omega
  · rw [h.sum]; omega
theorem laidF_len : ∀ (l : List Part), (∀ p, p ∈ l → p.Ok ∧ p.some.length ≤ 1000) → (laidF l).length ≤ l.length * 1009
  | [], _ => by simp [laidF]
  | p :: l, h => by
    rw [laidF_cons]
    have h1 := encP_len (h p (List.mem_cons_self ..)).1 (h p (List.mem_cons_self ..)).2
    have h2 := laidF_len l fun q hq => h q (List.mem_cons_of_mem _ hq)
    simp only [List.length_append, List.length_cons]
    omega
theorem laidF_take_len (l : List Part) (h : ∀ p, p ∈ l → p.Ok ∧ p.some.length ≤ 1000) (hl : l.length ≤ 40) (k : Nat) : (laidF (l.take k)).length ≤ 40360 := by
  have h1 := laidF_len (l.take k) fun p hp => h p (List.mem_of_mem_take hp)
  have h2 : (l.take k).length ≤ 40 := Nat.le_trans (by simp; omega) hl
  have : (l.take k).length * 1009 ≤ 40 * 1009 := Nat.mul_le_mul_right _ h2
  omega
theorem encP_ne {p : Part} (h : p.Ok) : encP p ≠ [] := by
  unfold encP
  split
  · exact rowF_ne _
  split
  · intro e; have := u64F_len p.u; rw [e] at this; cases this
  split
  · simp [rowF_ne]
  · intro e; have := h.sum; rw [e] at this; cases this
/-- the document's readers -/
def rbytesF (s : Rd) : (Bool × List UInt8) × Rd := if (numF s).2.no then ((false, []), (numF s).2) else nextF (numF s).2 (numF s).1
def rhashF (s : Rd) : List UInt8 × Rd := (if (nextF s 32).1.2.length = 32 then (nextF s 32).1.2 else List.replicate 32 0, (nextF s 32).2)
/-- a sum, of which k bytes are laid -/
def fillF (l : List UInt8) (k : Nat) : List UInt8 := l.take k ++ List.replicate (32 - k) 0
theorem fillF_zero (l : List UInt8) : fillF l 0 = List.replicate 32 0 := by simp [fillF]
theorem fillF_get (l : List UInt8) (k : Nat) (h : k < l.length) (h2 : l.length ≤ 32) : (fillF l k)[k]? = .some 0 := by
  unfold fillF
  have h3 : (l.take k).length = k := by simp; omega
  rw [List.getElem?_append_right (by omega), h3, List.getElem?_replicate]
  simp
  omega
theorem fillF_set (l : List UInt8) (k : Nat) (d : UInt8) (hx : l[k]? = .some d) (h2 : l.length ≤ 32) : (fillF l k).set k d = fillF l (k + 1) := by
  have h : k < l.length := (List.getElem?_eq_some_iff.1 hx).1
  have h3 : (l.take k).length = k := by simp; omega
  unfold fillF
  rw [take_step hx, List.set_append_right _ _ (by omega), h3, Nat.sub_self]
  have e : 32 - k = (32 - (k + 1)) + 1 := by omega
  rw [e, List.replicate_succ]
  simp
theorem fillF_all (s : Rd) : fillF (nextF s 32).1.2 (nextF s 32).1.2.length = (rhashF s).1 := by
  unfold rhashF fillF
  rcases nextF_full s 32 with h | h
  · rw [if_pos h, h, List.take_of_length_le (by omega)]; simp
  · rw [h]; simp
/-- parts read one by one: do they say what is there? -/
def step (s : Rd) (p : Part) : Bool × Rd :=
  if kindF p.d = 0 then (decide (((numF s).1 : Int) = p.n), (numF s).2)
  else if kindF p.d = 1 then (decide ((u64R s).1 = p.u), (u64R s).2)
  else if kindF p.d = 2 then (decide ((bytesF s).1.2 = p.some), (bytesF s).2)
  else (decide ((hashF s).1 = p.sum), (hashF s).2)
def readF (s : Rd) : List Part → Bool × Rd
  | [] => (true, s)
  | p :: l => if (step s p).1 = false ∨ (step s p).2.no = true then (false, (step s p).2) else readF (step s p).2 l
theorem takeF_wf (s : Rd) (n : Nat) (h : s.nn = false → s.b = []) : (takeF s n).2.nn = false → (takeF s n).2.b = [] := by
  unfold takeF
  split
  · intro _; rfl
  · intro e; simp [h e]
theorem takeF_blen (s : Rd) (n : Nat) : (takeF s n).2.b.length ≤ s.b.length := by
  unfold takeF
  split <;> simp [Rd.fail]
theorem bytesF_wf (s : Rd) (h : s.nn = false → s.b = []) : (bytesF s).2.nn = false → (bytesF s).2.b = [] := by
  unfold bytesF
  split
  · exact numF_wf s h
  · exact takeF_wf _ _ (numF_wf s h)
theorem bytesF_blen (s : Rd) : (bytesF s).2.b.length ≤ s.b.length := by
  unfold bytesF
  split
  · exact numF_len s
  · exact Nat.le_trans (takeF_blen _ _) (numF_len s)
theorem bytesF_len1 (s : Rd) : (bytesF s).1.2.length ≤ s.b.length := by
  unfold bytesF
  split
  · simp
  · have := numF_len s
    unfold takeF
    split
    · simp
    · simp; omega
theorem step_wf (s : Rd) (p : Part) (h : s.nn = false → s.b = []) : (step s p).2.nn = false → (step s p).2.b = [] := by
  unfold step
  split
  · exact numF_wf s h
  split
  · exact takeF_wf s 8 h
  split
  · exact bytesF_wf s h
  · exact takeF_wf s 32 h
theorem step_blen (s : Rd) (p : Part) : (step s p).2.b.length ≤ s.b.length := by
  unfold step
  split
  · exact numF_len s
  split
  · exact takeF_blen s 8
  split
  · exact bytesF_blen s
  · exact takeF_blen s 32
theorem hashP_inj {s t : List UInt8} : hashP s = hashP t ↔ s = t := by
  unfold hashP
  constructor
  · intro h
    have h1 : s.map u8 = t.map u8 := by injection h
    have inj : ∀ (a b : List UInt8), a.map u8 = b.map u8 → a = b := by
      intro a
      induction a with
      | nil => intro b h; cases b with
        | nil => rfl
        | cons y r => simp at h
      | cons x r ih => intro b h; cases b with
        | nil => simp at h
        | cons y r' =>
          simp only [List.map_cons, List.cons.injEq, u8, Pl.int.injEq, true_and] at h
          obtain ⟨h2, h3⟩ := h
          rw [ih _ h3, UInt8.toNat_inj.1 (by omega : x.toNat = y.toNat)]
    exact inj s t h1
  · intro h; rw [h]
end Go.Proofs.Ytpgogpohkldhaaa
namespace Go.Proofs.Ytpgogpohkldhaaa
open Go.Ev
/-- two readers of the same bytes -/
structure Twin (s x : Rd) : Prop where
  b : s.b = x.b
  no : s.no = x.no
theorem twin_num {s x : Rd} (h : Twin s x) : (numF s).1 = (numF x).1 ∧ Twin (numF s).2 (numF x).2 := by
  unfold numF
  rw [h.b]
  split
  · exact ⟨rfl, rfl, h.no⟩
  · exact ⟨rfl, rfl, rfl⟩
theorem twin_take {s x : Rd} (h : Twin s x) (n : Nat) : (takeF s n).1.2 = (nextF x n).1.2 ∧ Twin (takeF s n).2 (nextF x n).2 := by
  unfold takeF nextF
  rw [h.b, h.no]
  split
  · exact ⟨rfl, rfl, rfl⟩
  · exact ⟨rfl, rfl, rfl⟩
theorem twin_u64 {s x : Rd} (h : Twin s x) : (u64R s).1 = (ru64R x).1 ∧ Twin (u64R s).2 (ru64R x).2 := by
  obtain ⟨h1, h2⟩ := twin_take h 8
  unfold u64R ru64R
  rw [h1]
  exact ⟨rfl, h2⟩
theorem twin_bytes {s x : Rd} (h : Twin s x) : (bytesF s).1.2 = (rbytesF x).1.2 ∧ Twin (bytesF s).2 (rbytesF x).2 := by
  obtain ⟨h1, h2⟩ := twin_num h
  obtain ⟨h3, h4⟩ := twin_take h2 (numF s).1
  unfold bytesF rbytesF
  rw [← h1, h2.no]
  split
  · exact ⟨rfl, h2⟩
  · exact ⟨h3, h4⟩
theorem twin_hash {s x : Rd} (h : Twin s x) : (hashF s).1 = (rhashF x).1 ∧ Twin (hashF s).2 (rhashF x).2 := by
  obtain ⟨h1, h2⟩ := twin_take h 32
  unfold hashF rhashF
  rw [h1]
  exact ⟨rfl, h2⟩
def intsP (nn : Bool) (ks : List Int) : Pl := .sl nn 1 (ks.map fun d => .int .i64 d)
end Go.Proofs.Ytpgogpohkldhaaa
namespace Go.Proofs.Ytpgogpohkldhaaa
open Go.Ev
theorem takeF_blen0 (s : Rd) : (u64R s).2.b.length ≤ s.b.length := takeF_blen s 8
theorem hashF_blen (s : Rd) : (hashF s).2.b.length ≤ s.b.length := takeF_blen s 32
theorem putF_len0 {b : List UInt8} (p : Part) (hp : p.Ok) (hb : b.length ≤ 1000) : (putF b p.n).length < 4611686018427387904 := by
  unfold putF
  have := rowF_len p.n.toNat (by have := hp.n2; omega)
  split
  · omega
  · simp only [List.length_append]; omega
end Go.Proofs.Ytpgogpohkldhaaa
