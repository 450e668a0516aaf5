/- The evaluator, part I: why it is right: operations that turn no entry, one by one. -/
import Derived.Test.YtpgogpohkldhaaaEvH
set_option linter.unusedVariables false
set_option linter.unusedSimpArgs false
namespace Go.Ev

section
variable {P : Program} {o : Oper} {a : Act} {σ : Sg} {ts : List Dv} {hs hs' : List Hint} {C : List Prop} {d : Dv}

/-- the elements of a slice, an address -/
theorem indexAddr_slice {e : TypeId} {t : TypeId} {s : Nat} {xs : List Pl} {A : Option Addr} {c : Nat} {k : IntKind} {i : Int} {y : Pl} (ok : Ok σ) (hu : P.underlying t = some (.slice e)) (he : P.cellsOf e = s)
    (hi : (P.info? e).isSome = true) (hs : allSz s xs) (hr : xs ≠ [] → ∃ b o us, A = some ⟨b, o, none⟩ ∧ repCs σ.w σ.stab xs us ∧ Cells σ.w σ.stab b o us) (h0 : 0 ≤ i) (hy : xs[i.toNat]? = some y) :
    ∃ v, (Instr.indexAt t (.slice A xs.length c) (.int k i)).run P σ.w = .ok v σ.w ∧ repDV σ (.elem y) v := by
  have hlt : i.toNat < xs.length := (List.getElem?_eq_some_iff.1 hy).1
  have hne : xs ≠ [] := by
    rintro rfl
    simp at hlt
  obtain ⟨b, o, us, rfl, h1, h2⟩ := hr hne
  obtain ⟨uy, h3, h4⟩ := cells_at hs h1 h2 hy
  refine ⟨.pointer (some ⟨b, o + i.toNat * s, none⟩), ?_, ?_⟩
  · have hb : 0 ≤ i ∧ i < (xs.length : Int) := ⟨h0, by omega⟩
    simp [Instr.indexAt, asIntOf, run_underlying hu, hb, sizeOf_run hi, he, Addr.add_mk]
  · rw [repDV_one (by rfl)]
    simp only [repD]
    exact ⟨b, _, uy, rfl, h3, h4⟩

theorem elem_one {y : Pl} {v : Value} (h : repDV σ (.elem y) v) : ∃ b o us, v = .pointer (some ⟨b, o, none⟩) ∧ repC σ.w σ.stab y us ∧ Cells σ.w σ.stab b o us := by
  rw [repDV_one (by rfl)] at h
  simpa [repD] using h
theorem ref_one {id off : Nat} {path : List Nat} {v : Value} (h : repDV σ (.ref id off path) v) :
    ∃ b, σ.m[id]? = some (some b) ∧ (∃ d st, σ.H[id]? = some (.var d st)) ∧ v = .pointer (some ⟨b, off, none⟩) := by
  rw [repDV_one (by rfl)] at h
  simpa [repD] using h
theorem view_one {id off s lo n : Nat} {path : List Nat} {v : Value} (h : repDV σ (.view id off path s lo n) v) :
    ∃ b c a, σ.m[id]? = some (some b) ∧ (∃ d st, σ.H[id]? = some (.var d st)) ∧ v = .slice (some a) n c ∧ n ≤ c ∧ c ≤ maxLen ∧ (0 < n → a = ⟨b, off + lo * s, none⟩) := by
  rw [repDV_one (by rfl)] at h
  simpa [repD] using h
theorem fn_one {f : FuncId} {cap : List Dv} {v : Value} (h : repDV σ (.fn f cap) v) : ∃ cs, v = .func (.func f) #[] cs ∧ repVs σ cap cs.toList := by
  rw [repDV_one (by rfl)] at h
  simpa [repD] using h

theorem n_indexAddr {t : TypeId} {x ix : Operand} (ok : Ok σ) (hrep : RepT σ ts a) (ho : o.op = .indexAddr t x ix) (h : evN P o ts hs = some (C, d, hs')) (hc : AllP C) : OpOk P o a σ d σ.H := by
  simp only [evN, ho] at h
  have hx := arg_rep (P := P) hrep t x
  have hix := arg_rep (P := P) hrep 0 ix
  have run : ∀ v, (Instr.indexAt t (a.eval x) (a.eval ix)).run P σ.w = .ok v σ.w → (execOp a.eval o).run P σ.w = .ok (.value v) σ.w := fun v hv => by
    simp [execOp, ho, hv]
  split at h
  · rename_i e nn s xs k i hu hdx hdi
    rw [hdx] at hx
    rw [hdi] at hix
    split at h
    · rename_i y hs''
      split at h
      · rename_i hk
        simp only [Bool.and_eq_true, decide_eq_true_eq] at hk
        simp only [Option.some.injEq, Prod.mk.injEq] at h
        obtain ⟨rfl, rfl, rfl⟩ := h
        obtain ⟨h1, A, c, hv, h2, h3, h4, h5, h6⟩ := repDV_sl hx
        obtain ⟨v, h7, h8⟩ := indexAddr_slice (k := k) (c := c) ok hu hk.1 hk.2 h1 h6 hc.1 hc.2.1
        exact opOk_value ok (run v (by rw [hv, repDV_int hix]; exact h7)) h8
      · cases h
    · cases h
  · rename_i e id nn s xs k i hu hdx hdi
    rw [hdx] at hx
    rw [hdi] at hix
    split at h
    · rename_i y hs''
      split at h
      · rename_i hk
        simp only [Bool.and_eq_true, decide_eq_true_eq] at hk
        simp only [Option.some.injEq, Prod.mk.injEq] at h
        obtain ⟨rfl, rfl, rfl⟩ := h
        obtain ⟨h1, A, c, hv, h2, h3, h4, h5, h6, _⟩ := repDV_own hx
        obtain ⟨v, h7, h8⟩ := indexAddr_slice (k := k) (c := c) ok hu hk.1 hk.2 h1 h6 hc.1 hc.2.1
        exact opOk_value ok (run v (by rw [hv, repDV_int hix]; exact h7)) h8
      · cases h
    · cases h
  · rename_i e id off path s lo n k i hu hdx hdi
    rw [hdx] at hx
    rw [hdi] at hix
    split at h
    · rename_i hk
      simp only [Bool.and_eq_true, decide_eq_true_eq] at hk
      simp only [Option.some.injEq, Prod.mk.injEq] at h
      obtain ⟨rfl, rfl, rfl⟩ := h
      obtain ⟨h0, h1, _⟩ := hc
      obtain ⟨b, c, aa, hm, hv, hx, h2, h3, h4⟩ := view_one hx
      have e1 := h4 (by omega)
      subst e1
      refine opOk_value (v := .pointer (some ⟨b, off + (lo + i.toNat) * s, none⟩)) ok (run _ ?_) ?_
      · rw [hx, repDV_int hix]
        have hb : 0 ≤ i ∧ i < (n : Int) := ⟨h0, h1⟩
        simp [Instr.indexAt, asIntOf, run_underlying hu, hb, sizeOf_run hk.2, hk.1, Addr.add_mk, Nat.add_mul, Nat.add_assoc]
      · rw [repDV_one (by rfl)]
        simp only [repD]
        exact ⟨b, hm, hv, rfl⟩
    · cases h
  · rename_i n e id off path k i hu hdx hdi
    rw [hdx] at hx
    rw [hdi] at hix
    split at h
    · rename_i hk
      simp only [Option.some.injEq, Prod.mk.injEq] at h
      obtain ⟨rfl, rfl, rfl⟩ := h
      obtain ⟨h0, h1, _⟩ := hc
      obtain ⟨b, hm, hv, hx⟩ := ref_one hx
      refine opOk_value (v := .pointer (some ⟨b, off + i.toNat * P.cellsOf e, none⟩)) ok (run _ ?_) ?_
      · rw [hx, repDV_int hix]
        have hb : 0 ≤ i ∧ i < (n : Int) := ⟨h0, h1⟩
        simp [Instr.indexAt, asIntOf, run_underlying hu, hb, sizeOf_run hk, Instr.sureAddr, Addr.add_mk]
      · rw [repDV_one (by rfl)]
        simp only [repD]
        exact ⟨b, hm, hv, rfl⟩
    · cases h
  · rename_i n e n' s xs k i hu hdx hdi
    rw [hdx] at hx
    rw [hdi] at hix
    split at h
    · rename_i y hs''
      split at h
      · rename_i hk
        simp only [Bool.and_eq_true, decide_eq_true_eq] at hk
        obtain ⟨⟨rfl, hk⟩, hk2⟩ := hk
        simp only [Option.some.injEq, Prod.mk.injEq] at h
        obtain ⟨rfl, rfl, rfl⟩ := h
        obtain ⟨h0, h1, _⟩ := hc
        obtain ⟨b, off, us, hx, h2, h3⟩ := elem_one hx
        simp only [repC] at h2
        obtain ⟨h4, h5, h6⟩ := h2
        obtain ⟨uy, h7, h8⟩ := cells_at h5 h6 h3 h1
        have hlt : i.toNat < xs.length := (List.getElem?_eq_some_iff.1 h1).1
        refine opOk_value (v := .pointer (some ⟨b, off + i.toNat * s, none⟩)) ok (run _ ?_) ?_
        · rw [hx, repDV_int hix]
          have hb : 0 ≤ i ∧ i < (n : Int) := ⟨h0, by omega⟩
          simp [Instr.indexAt, asIntOf, run_underlying hu, hb, sizeOf_run hk2, hk, Instr.sureAddr, Addr.add_mk]
        · rw [repDV_one (by rfl)]
          simp only [repD]
          exact ⟨b, _, uy, rfl, h7, h8⟩
      · cases h
    · cases h
  · cases h

theorem n_slice {t : TypeId} {x : Operand} {lo hi : Option Operand} (ok : Ok σ) (hrep : RepT σ ts a) (ho : o.op = .slice t x lo hi none) (h : evN P o ts hs = some (C, d, hs')) (hc : AllP C) : OpOk P o a σ d σ.H := by
  simp only [evN, ho] at h
  have hx := arg_rep (P := P) hrep t x
  have run : ∀ v, (Instr.sliceAt t (a.eval x) (lo.map a.eval) (hi.map a.eval) none).run P σ.w = .ok v σ.w → (execOp a.eval o).run P σ.w = .ok (.value v) σ.w := fun v hv => by
    simp [execOp, ho, hv]
  split at h
  · rename_i e nn s xs l r hu hdx hl hr
    rw [hdx] at hx
    split at h
    · rename_i hk
      simp only [Bool.and_eq_true, decide_eq_true_eq] at hk
      simp only [Option.some.injEq, Prod.mk.injEq] at h
      obtain ⟨rfl, rfl, rfl⟩ := h
      obtain ⟨h1, A, c, hv, h2, h3, h4, h5, h6⟩ := repDV_sl hx
      obtain ⟨p, q, hb, h7, h8, rfl, rfl⟩ := bounds_run (P := P) (w := σ.w) true xs.length c _ _ _ _ (lowOf_rep hrep hl) (lowOf_rep hrep hr) hc h2
      obtain ⟨k1, k2, k3, k4, k5, k6, k7⟩ := cut_rep h1 h2 h3 (fun hA => h5 (by rw [← h4, hA]; rfl)) h6 h7 h8
      refine opOk_value ok (run _ (by rw [hv]; simp [Instr.sliceAt, Instr.slice, run_underlying hu, hb, sizeOf_run hk.2, hk.1]; rfl)) ?_
      rw [cutList_eq xs l r hc, ← k2]
      exact repDV_sl_mk k1 (by rw [k2]; exact k3) k4 (by rw [k5, h4]) (fun hn => k6 (by
        have := k5.trans (h4.trans hn)
        simpa using this)) k7
    · cases h
  · rename_i e id nn s xs l r hu hdx hl hr
    rw [hdx] at hx
    split at h
    · rename_i hk
      simp only [Bool.and_eq_true, decide_eq_true_eq] at hk
      simp only [Option.some.injEq, Prod.mk.injEq] at h
      obtain ⟨rfl, rfl, rfl⟩ := h
      obtain ⟨h1, A, c, hv, h2, h3, h4, h5, h6, _⟩ := repDV_own hx
      obtain ⟨p, q, hb, h7, h8, rfl, rfl⟩ := bounds_run (P := P) (w := σ.w) true xs.length c _ _ _ _ (lowOf_rep hrep hl) (lowOf_rep hrep hr) hc h2
      obtain ⟨k1, k2, k3, k4, k5, k6, k7⟩ := cut_rep h1 h2 h3 (fun hA => h5 (by rw [← h4, hA]; rfl)) h6 h7 h8
      refine opOk_value ok (run _ (by rw [hv]; simp [Instr.sliceAt, Instr.slice, run_underlying hu, hb, sizeOf_run hk.2, hk.1]; rfl)) ?_
      rw [cutList_eq xs l r hc, ← k2]
      exact repDV_sl_mk k1 (by rw [k2]; exact k3) k4 (by rw [k5, h4]) (fun hn => k6 (by
        have := k5.trans (h4.trans hn)
        simpa using this)) k7
    · cases h
  · rename_i e id off path s lo n l r hu hdx hl hr
    rw [hdx] at hx
    split at h
    · rename_i hk
      simp only [Bool.and_eq_true, decide_eq_true_eq] at hk
      simp only [Option.some.injEq, Prod.mk.injEq] at h
      obtain ⟨rfl, rfl, rfl⟩ := h
      obtain ⟨b, c, aa, hm, hv, hx, h2, h3, h4⟩ := view_one hx
      obtain ⟨p, q, hb, h7, h8, rfl, rfl⟩ := bounds_run (P := P) (w := σ.w) true n c _ _ _ _ (lowOf_rep hrep hl) (lowOf_rep hrep hr) hc h2
      refine opOk_value ok (run _ (by rw [hx]; simp [Instr.sliceAt, Instr.slice, run_underlying hu, hb, sizeOf_run hk.2, hk.1]; rfl)) ?_
      rw [repDV_one (by rfl)]
      simp only [repD]
      by_cases hcl : c = (l.getD 0).toNat
      · exact ⟨b, c - (l.getD 0).toNat, aa, hm, hv, by rw [if_pos hcl], by omega, by omega, fun h0 => absurd h0 (by omega)⟩
      · refine ⟨b, c - (l.getD 0).toNat, aa.add ((l.getD 0).toNat * s), hm, hv, by rw [if_neg hcl], by omega, by omega, fun h0 => ?_⟩
        rw [h4 (by omega), Addr.add_mk, Nat.add_mul, Nat.add_assoc]
    · cases h
  · rename_i n e n' s xs l r hu hdx hl hr
    rw [hdx] at hx
    split at h
    · rename_i hk
      simp only [Bool.and_eq_true, decide_eq_true_eq] at hk
      obtain ⟨⟨⟨rfl, hk⟩, hk2⟩, hm⟩ := hk
      simp only [Option.some.injEq, Prod.mk.injEq] at h
      obtain ⟨rfl, rfl, rfl⟩ := h
      obtain ⟨b, off, us, hx', h2, h3⟩ := elem_one hx
      simp only [repC] at h2
      obtain ⟨h4, h5, h6⟩ := h2
      subst h4
      obtain ⟨p, q, hb, h7, h8, rfl, rfl⟩ := bounds_run (P := P) (w := σ.w) false xs.length xs.length _ _ _ _ (lowOf_rep hrep hl) (lowOf_rep hrep hr) hc (Nat.le_refl _)
      obtain ⟨k1, k2, k3, k4, k5, k6, k7⟩ := cut_rep (A := some ⟨b, off, none⟩) h5 (Nat.le_refl _) hm (fun hA => by cases hA) (fun _ => ⟨b, off, us, rfl, h6, h3⟩) h7 h8
      refine opOk_value ok (run _ (by rw [hx']; simp [Instr.sliceAt, Instr.sureAddr, run_underlying hu, hb, sizeOf_run hk2, hk]; rfl)) ?_
      rw [cutList_eq xs l r hc, ← k2]
      have := repDV_sl_mk (σ := σ) k1 (by rw [k2]; exact k3) k4 k5 (fun hn => by cases hn) k7
      rw [k2] at this ⊢
      simpa [apply_ite] using this
    · cases h
  · rename_i n e id off path l r hu hdx hl hr
    rw [hdx] at hx
    split at h
    · rename_i hs''
      split at h
      · rename_i hk
        simp only [Bool.and_eq_true, decide_eq_true_eq] at hk
        obtain ⟨hk, hm'⟩ := hk
        simp only [Option.some.injEq, Prod.mk.injEq] at h
        obtain ⟨rfl, rfl, rfl⟩ := h
        obtain ⟨b, hm, hv, hx⟩ := ref_one hx
        obtain ⟨p, q, hb, h7, h8, rfl, rfl⟩ := bounds_run (P := P) (w := σ.w) false n n _ _ _ _ (lowOf_rep hrep hl) (lowOf_rep hrep hr) hc (Nat.le_refl _)
        refine opOk_value ok (run _ (by rw [hx]; simp [Instr.sliceAt, Instr.sureAddr, run_underlying hu, hb, sizeOf_run hk]; rfl)) ?_
        rw [repDV_one (by rfl)]
        simp only [repD]
        refine ⟨b, _, _, hm, hv, rfl, by omega, by omega, fun h0 => ?_⟩
        rw [if_neg (by omega), Addr.add_mk]
      · cases h
    · cases h
  · cases h
end
end Go.Ev
