/- The evaluator, part E: why it is right: arithmetic, tests. -/
import Derived.Test.YtpgogpohkldhaaaEvD
set_option linter.unusedVariables false
set_option linter.unusedSimpArgs false
namespace Go.Ev

theorem wrap_of_in {k : IntKind} {x : Int} (h : inKind k x) : k.wrap x = x := by
  obtain ⟨h1, h2⟩ := h
  cases k <;> simp only [IntKind.min, IntKind.max, IntKind.wrap, IntKind.signed, IntKind.bits] at * <;> simp at * <;> (try split) <;> omega

theorem allP_append {A B : List Prop} : AllP (A ++ B) ↔ AllP A ∧ AllP B := by
  induction A with
  | nil => simp [AllP]
  | cons p A ih => simp [AllP, ih, and_assoc]

theorem arith_sound {k : IntKind} {x : Int} {hs hs' : List Hint} {C : List Prop} {d : Dv} (h : arith k x hs = some (C, d, hs')) (hc : AllP C) (σ : Sg) : repDV σ d (.int k (k.wrap x)) := by
  unfold arith at h
  split at h
  · simp only [Option.some.injEq, Prod.mk.injEq] at h
    obtain ⟨rfl, rfl, rfl⟩ := h
    rw [wrap_of_in hc.1]
    exact repDV_int_mk _ _
  · simp only [Option.some.injEq, Prod.mk.injEq] at h
    obtain ⟨rfl, rfl, rfl⟩ := h
    exact repDV_int_mk _ _
  · cases h

theorem ofInt_nat (n a : Nat) (h : a < 2 ^ n) : (BitVec.ofInt n (a : Int)).toNat = a := by
  rw [BitVec.ofInt_natCast, BitVec.toNat_ofNat]
  exact Nat.mod_eq_of_lt h

theorem inKind_lt {k : IntKind} {x : Int} (h : inKind k x) (h0 : 0 ≤ x) : x.toNat < 2 ^ k.bits := by
  obtain ⟨h1, h2⟩ := h
  cases k <;> simp only [IntKind.min, IntKind.max, IntKind.signed, IntKind.bits] at * <;> simp at * <;> omega

theorem bits_nat {op : BinOp} {k : IntKind} {x y : Int} {r : Nat} (hr : natBits op x.toNat y.toNat = some r) (hx : 0 ≤ x) (kx : inKind k x) (hy : 0 ≤ y) (ky : inKind k y) (kr : inKind k (r : Int)) :
    bits op k x y = (r : Int) := by
  obtain ⟨a, rfl⟩ := Int.eq_ofNat_of_zero_le hx
  obtain ⟨b, rfl⟩ := Int.eq_ofNat_of_zero_le hy
  have ha := inKind_lt kx hx
  have hb := inKind_lt ky hy
  simp only [Int.toNat_natCast] at ha hb hr
  unfold natBits at hr
  split at hr
  · cases hr
    have e : bits .and k (a : Int) (b : Int) = k.wrap ((BitVec.ofInt k.bits (a : Int) &&& BitVec.ofInt k.bits (b : Int)).toNat : Int) := rfl
    rw [e, BitVec.toNat_and, ofInt_nat _ _ ha, ofInt_nat _ _ hb]
    exact wrap_of_in kr
  · cases hr
    have e : bits .or k (a : Int) (b : Int) = k.wrap ((BitVec.ofInt k.bits (a : Int) ||| BitVec.ofInt k.bits (b : Int)).toNat : Int) := rfl
    rw [e, BitVec.toNat_or, ofInt_nat _ _ ha, ofInt_nat _ _ hb]
    exact wrap_of_in kr
  · cases hr
    have e : bits .xor k (a : Int) (b : Int) = k.wrap ((BitVec.ofInt k.bits (a : Int) ^^^ BitVec.ofInt k.bits (b : Int)).toNat : Int) := rfl
    rw [e, BitVec.toNat_xor, ofInt_nat _ _ ha, ofInt_nat _ _ hb]
    exact wrap_of_in kr
  · cases hr

theorem evInt_sound {P : Program} {op : BinOp} {k : IntKind} {x y : Int} {hs hs' : List Hint} {C : List Prop} {d : Dv} (h : evInt op k x y hs = some (C, d, hs')) (hc : AllP C) (σ : Sg) (t : TypeId) :
    ∃ v, (binOp op t (.int k x) (.int k y)).run P σ.w = .ok v σ.w ∧ repDV σ d v := by
  unfold evInt at h
  split at h
  · exact ⟨_, by rw [binOp_add]; rfl, arith_sound h hc σ⟩
  · exact ⟨_, by rw [binOp_sub]; rfl, arith_sound h hc σ⟩
  · exact ⟨_, by rw [binOp_mul]; rfl, arith_sound h hc σ⟩
  · split at h
    · simp only [Option.some.injEq, Prod.mk.injEq] at h
      obtain ⟨rfl, rfl, rfl⟩ := h
      obtain ⟨h1, h2, h3, _⟩ := hc
      have hy : y ≠ 0 := by omega
      refine ⟨_, ?_, repDV_int_mk k (x / y)⟩
      rw [binOp_quo]
      simp only [Op.intDiv, hy, if_false]
      rw [Int.tdiv_eq_ediv_of_nonneg h1, wrap_of_in h3]
      rfl
    · simp only [Option.some.injEq, Prod.mk.injEq] at h
      obtain ⟨rfl, rfl, rfl⟩ := h
      have hy : y ≠ 0 := hc.1
      refine ⟨_, ?_, repDV_int_mk k _⟩
      rw [binOp_quo]
      simp only [Op.intDiv, hy, if_false]
      rfl
    · cases h
  · split at h
    · simp only [Option.some.injEq, Prod.mk.injEq] at h
      obtain ⟨rfl, rfl, rfl⟩ := h
      obtain ⟨h1, h2, _⟩ := hc
      have hy : y ≠ 0 := by omega
      refine ⟨_, ?_, repDV_int_mk k (x % y)⟩
      rw [binOp_rem]
      simp only [Op.intDiv, hy, if_false]
      rw [Int.tmod_eq_emod_of_nonneg h1]
      rfl
    · simp only [Option.some.injEq, Prod.mk.injEq] at h
      obtain ⟨rfl, rfl, rfl⟩ := h
      have hy : y ≠ 0 := hc.1
      refine ⟨_, ?_, repDV_int_mk k _⟩
      rw [binOp_rem]
      simp only [Op.intDiv, hy, if_false]
      rfl
    · cases h
  · split at h
    · simp only [Option.map_eq_some_iff, Prod.mk.injEq] at h
      obtain ⟨r, hr, rfl, rfl, rfl⟩ := h
      obtain ⟨h1, h2, h3, h4, h5, _⟩ := hc
      refine ⟨_, ?_, repDV_int_mk k _⟩
      rw [binOp_and, intBits_and, bits_nat hr h1 h2 h3 h4 h5]
      rfl
    · simp only [Option.some.injEq, Prod.mk.injEq] at h
      obtain ⟨rfl, rfl, rfl⟩ := h
      exact ⟨_, by rw [binOp_and, intBits_and]; rfl, repDV_int_mk k _⟩
    · cases h
  · split at h
    · simp only [Option.map_eq_some_iff, Prod.mk.injEq] at h
      obtain ⟨r, hr, rfl, rfl, rfl⟩ := h
      obtain ⟨h1, h2, h3, h4, h5, _⟩ := hc
      refine ⟨_, ?_, repDV_int_mk k _⟩
      rw [binOp_or, intBits_or, bits_nat hr h1 h2 h3 h4 h5]
      rfl
    · simp only [Option.some.injEq, Prod.mk.injEq] at h
      obtain ⟨rfl, rfl, rfl⟩ := h
      exact ⟨_, by rw [binOp_or, intBits_or]; rfl, repDV_int_mk k _⟩
    · cases h
  · split at h
    · simp only [Option.map_eq_some_iff, Prod.mk.injEq] at h
      obtain ⟨r, hr, rfl, rfl, rfl⟩ := h
      obtain ⟨h1, h2, h3, h4, h5, _⟩ := hc
      refine ⟨_, ?_, repDV_int_mk k _⟩
      rw [binOp_xor, intBits_xor, bits_nat hr h1 h2 h3 h4 h5]
      rfl
    · simp only [Option.some.injEq, Prod.mk.injEq] at h
      obtain ⟨rfl, rfl, rfl⟩ := h
      exact ⟨_, by rw [binOp_xor, intBits_xor]; rfl, repDV_int_mk k _⟩
    · cases h
  · split at h
    · simp only [Option.some.injEq, Prod.mk.injEq] at h
      obtain ⟨rfl, rfl, rfl⟩ := h
      exact ⟨_, by rw [binOp_andNot, intBits_andNot]; rfl, repDV_int_mk k _⟩
    · cases h
  all_goals first
    | (cases h; done)
    | (simp only [Option.some.injEq, Prod.mk.injEq] at h
       obtain ⟨rfl, rfl, rfl⟩ := h
       first
         | exact ⟨_, by rw [binOp_eql]; rfl, repDV_bool_mk _⟩
         | exact ⟨_, by rw [binOp_neq]; rfl, repDV_bool_mk _⟩
         | exact ⟨_, by rw [binOp_lss]; rfl, repDV_bool_mk _⟩
         | exact ⟨_, by rw [binOp_leq]; rfl, repDV_bool_mk _⟩
         | exact ⟨_, by rw [binOp_gtr]; rfl, repDV_bool_mk _⟩
         | exact ⟨_, by rw [binOp_geq]; rfl, repDV_bool_mk _⟩)

theorem evShift_sound {P : Program} {op : BinOp} {k yk : IntKind} {x y : Int} {hs hs' : List Hint} {C : List Prop} {d : Dv} (h : evShift op k x y hs = some (C, d, hs')) (hc : AllP C) (σ : Sg) :
    ∃ v, (Op.shift op k x yk y).run P σ.w = .ok v σ.w ∧ repDV σ d v := by
  unfold evShift at h
  split at h
  · simp only [Option.some.injEq, Prod.mk.injEq] at h
    obtain ⟨rfl, rfl, rfl⟩ := h
    obtain ⟨h1, h2, h3, _⟩ := hc
    refine ⟨_, ?_, repDV_int_mk k _⟩
    have hn : ¬ y < 0 := by omega
    simp only [Op.shift, hn, if_false]
    rw [Nat.min_eq_left (Nat.le_of_lt h2), wrap_of_in h3]
    rfl
  · simp only [Option.some.injEq, Prod.mk.injEq] at h
    obtain ⟨rfl, rfl, rfl⟩ := h
    refine ⟨_, ?_, repDV_int_mk k _⟩
    have hn : ¬ y < 0 := by have : 0 ≤ y := hc.1; omega
    simp only [Op.shift, hn, if_false]
    rfl
  · simp only [Option.some.injEq, Prod.mk.injEq] at h
    obtain ⟨rfl, rfl, rfl⟩ := h
    obtain ⟨h1, h2, _⟩ := hc
    refine ⟨_, ?_, repDV_int_mk k _⟩
    have hn : ¬ y < 0 := by omega
    simp only [Op.shift, hn, if_false]
    rw [Nat.min_eq_left h2, Int.fdiv_eq_ediv_of_nonneg _ (by exact Int.le_of_lt (Int.pow_pos (by decide)))]
    rfl
  · simp only [Option.some.injEq, Prod.mk.injEq] at h
    obtain ⟨rfl, rfl, rfl⟩ := h
    refine ⟨_, ?_, repDV_int_mk k _⟩
    have hn : ¬ y < 0 := by have : 0 ≤ y := hc.1; omega
    simp only [Op.shift, hn, if_false]
    rfl
  · cases h

end Go.Ev
