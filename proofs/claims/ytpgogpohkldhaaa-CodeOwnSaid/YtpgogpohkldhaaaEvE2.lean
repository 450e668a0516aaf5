/- The evaluator, part E2: why it is right: '=='. -/
import Derived.Test.YtpgogpohkldhaaaEvF
import Derived.ChangeKeysEq
import Derived.Laws.StructEq
set_option linter.unusedVariables false
set_option linter.unusedSimpArgs false
namespace Go.Ev

theorem beq_iff_int {k : IntKind} {a b : Int} : (a == b) = true ↔ Pl.int k a = Pl.int k b := by simp
theorem arr_size {w : World} {S : Nat → Nat → Prop} {n s : Nat} {xs : List Pl} {us : List Value} (h : repC w S (.arr n s xs) us) : xs.length = n ∧ allSz s xs ∧ repCs w S xs us := by
  simpa [repC] using h

theorem eqItems_fit {P : Program} {σ : Sg} {d n : Nat} {e : TypeId} {s : Nat} (hs : P.cellsOf e = s) (hs0 : s ≠ 0) (hi : (P.info? e).isSome = true) (hu : (P.underlying e).isSome = true)
    (ih : ∀ (x y : Pl) (a b : Value), fitP P n e x → fitP P n e y → repDV σ (.p x) a → repDV σ (.p y) b → ∃ r : Bool, (Op.equalIn d e a b).run P σ.w = .ok r σ.w ∧ (r = true ↔ x = y))
    {cs cs' : Array Value} {m : Nat} : ∀ (xs ys : List Pl) (i : Nat) (p p' us vs : List Value), (∀ y, y ∈ xs → fitP P n e y ∧ y.size = s ∧ isAggT P e = y.isAgg) → (∀ y, y ∈ ys → fitP P n e y ∧ y.size = s ∧ isAggT P e = y.isAgg) →
      cs.toList = p ++ us → cs'.toList = p' ++ vs → p.length = i * s → p'.length = i * s → repCs σ.w σ.stab xs us → repCs σ.w σ.stab ys vs → xs.length = m → ys.length = m →
      ∃ r : Bool, (Op.eqItems d e s cs cs' (List.range' i m)).run P σ.w = .ok r σ.w ∧ (r = true ↔ xs = ys)
  | [], ys, i, p, p', us, vs, _, _, _, _, _, _, _, _, h1, h2 => by
    subst h1
    have : ys = [] := List.eq_nil_of_length_eq_zero h2
    subst this
    exact ⟨true, by simp [Op.eqItems], by simp⟩
  | x :: xs, [], _, _, _, _, _, _, _, _, _, _, _, _, _, h1, h2 => by simp at h1 h2; omega
  | x :: xs, y :: ys, i, p, p', us, vs, hx, hy, e1, e2, l1, l2, r1, r2, h1, h2 => by
    obtain ⟨m', rfl⟩ : ∃ m', m = m' + 1 := ⟨xs.length, by simpa using h1.symm⟩
    simp only [repCs] at r1 r2
    obtain ⟨u1, u2, rfl, q1, q2⟩ := r1
    obtain ⟨v1, v2, rfl, q3, q4⟩ := r2
    obtain ⟨f1, f2, f3⟩ := hx x (List.mem_cons_self ..)
    obtain ⟨g1, g2, g3⟩ := hy y (List.mem_cons_self ..)
    obtain ⟨a, ha, ra⟩ := part_run (P := P) (σ := σ) (t := e) (d := .p x) e1 (by simpa [repD] using q1) (by rw [hs]; exact f2.symm) hi hu f3 (by show x.size ≠ 0; omega)
    obtain ⟨b, hb, rb⟩ := part_run (P := P) (σ := σ) (t := e) (d := .p y) e2 (by simpa [repD] using q3) (by rw [hs]; exact g2.symm) hi hu g3 (by show y.size ≠ 0; omega)
    rw [l1] at ha
    rw [l2] at hb
    obtain ⟨r, hr, hiff⟩ := ih x y a b f1 g1 ra rb
    have s1 := repC_size _ _ q1
    have s2 := repC_size _ _ q3
    obtain ⟨r', hr', hiff'⟩ := eqItems_fit hs hs0 hi hu ih xs ys (i + 1) (p ++ u1) (p' ++ v1) u2 v2 (fun z hz => hx z (List.mem_cons_of_mem _ hz)) (fun z hz => hy z (List.mem_cons_of_mem _ hz))
      (by rw [e1, List.append_assoc]) (by rw [e2, List.append_assoc]) (by rw [List.length_append, l1, s1, f2, Nat.add_mul, Nat.one_mul]) (by rw [List.length_append, l2, s2, g2, Nat.add_mul, Nat.one_mul]) q2 q4 (by simpa using h1) (by simpa using h2)
    rw [List.range'_succ]
    simp only [Op.eqItems, Sem.run_bind, ha, hb, hr, Result.andThen_ok]
    cases r
    · exact ⟨false, by simp, by simp; intro e; exact absurd (hiff.2 e) (by simp)⟩
    · refine ⟨r', by simpa using hr', ?_⟩
      rw [hiff']
      simp [hiff.1 rfl]

theorem eqFields_fit {P : Program} {σ : Sg} {d : Nat} {R : TypeId → Pl → Prop}
    (ih : ∀ (t : TypeId) (x y : Pl) (a b : Value), R t x → R t y → repDV σ (.p x) a → repDV σ (.p y) b → ∃ r : Bool, (Op.equalIn d t a b).run P σ.w = .ok r σ.w ∧ (r = true ↔ x = y))
    {cs cs' : Array Value} : ∀ (fs : List Field) (xs ys : List Pl) (o : Nat) (p p' us vs : List Value), fitFs P R fs o xs → fitFs P R fs o ys →
      cs.toList = p ++ us → cs'.toList = p' ++ vs → p.length = o → p'.length = o → repCs σ.w σ.stab xs us → repCs σ.w σ.stab ys vs →
      ∃ r : Bool, (Op.eqFields d cs cs' fs).run P σ.w = .ok r σ.w ∧ (r = true ↔ xs = ys)
  | [], [], [], _, _, _, _, _, _, _, _, _, _, _, _, _ => ⟨true, by simp [Op.eqFields], by simp⟩
  | [], _ :: _, _, _, _, _, _, _, h, _, _, _, _, _, _, _ => by simp [fitFs] at h
  | [], [], _ :: _, _, _, _, _, _, _, h, _, _, _, _, _, _ => by simp [fitFs] at h
  | _ :: _, [], _, _, _, _, _, _, h, _, _, _, _, _, _, _ => by simp [fitFs] at h
  | _ :: _, _ :: _, [], _, _, _, _, _, _, h, _, _, _, _, _, _ => by simp [fitFs] at h
  | f :: fs, x :: xs, y :: ys, o, p, p', us, vs, hx, hy, e1, e2, l1, l2, r1, r2 => by
    simp only [fitFs] at hx hy
    obtain ⟨a1, a2, a3, a4, a5, a6, a7, a8, a9⟩ := hx
    obtain ⟨_, _, b3, _, _, b6, b7, b8, b9⟩ := hy
    simp only [repCs] at r1 r2
    obtain ⟨u1, u2, rfl, q1, q2⟩ := r1
    obtain ⟨v1, v2, rfl, q3, q4⟩ := r2
    obtain ⟨a, ha, ra⟩ := part_run (P := P) (σ := σ) (t := f.type) (d := .p x) e1 (by simpa [repD] using q1) a3 a4 a5 a6 a7
    obtain ⟨b, hb, rb⟩ := part_run (P := P) (σ := σ) (t := f.type) (d := .p y) e2 (by simpa [repD] using q3) b3 a4 a5 b6 b7
    rw [l1, ← a2] at ha
    rw [l2, ← a2] at hb
    obtain ⟨r, hr, hiff⟩ := ih f.type x y a b a8 b8 ra rb
    have s1 := repC_size _ _ q1
    have s2 := repC_size _ _ q3
    have hxy : x.size = y.size := a3.symm.trans b3
    obtain ⟨r', hr', hiff'⟩ := eqFields_fit ih fs xs ys (o + x.size) (p ++ u1) (p' ++ v1) u2 v2 a9 (by rw [hxy]; exact b9)
      (by rw [e1, List.append_assoc]) (by rw [e2, List.append_assoc]) (by rw [List.length_append, l1, s1]) (by rw [List.length_append, l2, s2, hxy]) q2 q4
    simp only [Op.eqFields, a1, ne_eq, not_false_eq_true, if_true, Sem.run_bind, ha, hb, hr, Result.andThen_ok]
    cases r
    · exact ⟨false, by simp, by simp; intro e; exact absurd (hiff.2 e) (by simp)⟩
    · refine ⟨r', by simpa using hr', ?_⟩
      rw [hiff']
      simp [hiff.1 rfl]

theorem equalIn_fit {P : Program} {σ : Sg} : ∀ (n : Nat) (t : TypeId) (x y : Pl) (a b : Value), fitP P n t x → fitP P n t y → repDV σ (.p x) a → repDV σ (.p y) b →
    ∀ d, ∃ r : Bool, (Op.equalIn (d + n) t a b).run P σ.w = .ok r σ.w ∧ (r = true ↔ x = y)
  | 0, _, _, _, _, _, h, _, _, _, _ => by simp [fitP] at h
  | n + 1, t, x, y, a, b, hx, hy, ra, rb, d => by
    unfold fitP at hx hy
    split at hx
    · rename_i hu
      rw [hu] at hy
      split at hy <;> rename_i e1 <;> simp only [reduceCtorEq, Option.some.injEq] at e1
      all_goals first
        | (rw [repDV_bool ra, repDV_bool rb]
           exact ⟨_, run_equalIn_bool' σ.w (d + n) t _ _ hu, by simp⟩)
        | exact hy.elim
    · rename_i k k' z hu
      rw [hu] at hy
      split at hy <;> rename_i e1 <;> simp only [reduceCtorEq, Option.some.injEq, TypeDesc.int.injEq] at e1
      all_goals first
        | (subst hx; subst hy; subst e1
           rw [repDV_int ra, repDV_int rb]
           exact ⟨_, run_equalIn_int σ.w (d + n) t _ _ _ _ hu, by simp⟩)
        | exact hy.elim
    · rename_i m e m' s xs hu
      rw [hu] at hy
      split at hy <;> rename_i e1 <;> simp only [reduceCtorEq, Option.some.injEq, TypeDesc.array.injEq] at e1
      · rename_i s2 ys
        obtain ⟨rfl, rfl⟩ := e1
        obtain ⟨rfl, h1, h2, h3, h4, h5⟩ := hx
        obtain ⟨rfl, g1, _, _, _, g5⟩ := hy
        obtain rfl : s = s2 := h1.symm.trans g1
        rw [repDV_agg (by rfl)] at ra rb
        obtain ⟨cs, rfl, ra⟩ := ra
        obtain ⟨cs', rfl, rb⟩ := rb
        simp only [repD] at ra rb
        obtain ⟨n1, _, ra⟩ := arr_size ra
        obtain ⟨n2, _, rb⟩ := arr_size rb
        obtain ⟨i, hi⟩ := Option.isSome_iff_exists.1 h3
        obtain ⟨r, hr, hiff⟩ := eqItems_fit (P := P) (σ := σ) (d := d + n) (n := n) (e := e) (s := s) h1 h2 h3 h4 (fun x y a b hx hy ra rb => equalIn_fit n e x y a b hx hy ra rb d) xs ys 0 [] [] cs.toList cs'.toList h5 g5 rfl rfl (by simp) (by simp) ra rb n1 n2
        refine ⟨r, ?_, by rw [hiff]; simp⟩
        rw [show d + (n + 1) = (d + n) + 1 from rfl, run_equalIn_array σ.w (d + n) cs cs' hu hi, List.range_eq_range', h1]
        exact hr
      all_goals first
        | exact hy.elim
    · rename_i fs xs hu
      rw [hu] at hy
      split at hy <;> rename_i e1 <;> simp only [reduceCtorEq, Option.some.injEq, TypeDesc.struct.injEq] at e1
      all_goals first
        | exact hy.elim
        | skip
      rename_i ys
      subst e1
      obtain ⟨h1, h2⟩ := hx
      obtain ⟨_, g2⟩ := hy
      rw [repDV_agg (by rfl)] at ra rb
      obtain ⟨cs, rfl, ra⟩ := ra
      obtain ⟨cs', rfl, rb⟩ := rb
      simp only [repD, repC] at ra rb
      have hfs : P.fieldsOf t = fs := by simp [Program.fieldsOf, hu]
      obtain ⟨r, hr, hiff⟩ := eqFields_fit (P := P) (σ := σ) (d := d + n) (R := fitP P n) (fun t x y a b hx hy ra rb => equalIn_fit n t x y a b hx hy ra rb d) fs.toList xs ys 0 [] [] cs.toList cs'.toList h2 g2 rfl rfl rfl rfl ra rb
      refine ⟨r, ?_, by rw [hiff]; simp⟩
      rw [show d + (n + 1) = (d + n) + 1 from rfl, run_equalIn_struct σ.w (d + n) t cs cs' (by rw [hfs]; exact hu) h1, hfs]
      exact hr
    · exact hx.elim

theorem equal_fit {P : Program} {σ : Sg} {t : TypeId} {x y : Pl} {a b : Value} (hx : fitP P 20 t x) (hy : fitP P 20 t y) (ra : repDV σ (.p x) a) (rb : repDV σ (.p y) b) {β : Bool} (h : β = true ↔ x = y) :
    (Op.equal t a b).run P σ.w = .ok β σ.w := by
  obtain ⟨r, hr, hiff⟩ := equalIn_fit 20 t x y a b hx hy ra rb 9980
  have : r = β := by rw [Bool.eq_iff_iff, hiff, h]
  subst this
  exact hr

/-- the value is none that '==' between errors asks about -/
def noGuard : Value → Bool
  | .bool _ | .pointer _ | .slice _ _ _ | .func _ _ _ | .nilFunc => true
  | _ => false
theorem eqGuard_no {op : BinOp} {t : TypeId} {x y : Operand} {a b : Value} (h : noGuard a = true) : eqGuard op t x y a b = pure () := by
  cases op <;> cases a <;> first | rfl | (simp [noGuard] at h)
theorem binOp_eql_no {t : TypeId} {a b : Value} (h : noGuard a = true) : binOp .eql t a b = (do pure (.bool (← Op.equal t a b))) := by
  cases a <;> first | (simp [noGuard] at h; done) | (cases b <;> rfl)
theorem binOp_neq_no {t : TypeId} {a b : Value} (h : noGuard a = true) : binOp .neq t a b = (do pure (.bool (!(← Op.equal t a b)))) := by
  cases a <;> first | (simp [noGuard] at h; done) | (cases b <;> rfl)

theorem equal_of {P : Program} {t : TypeId} {a b : Value} {r : Bool} {w : World} (h : ∀ n, (Op.equalIn (n + 1) t a b).run P w = .ok r w) : (Op.equal t a b).run P w = .ok r w := h 9999

theorem evEql_sound {P : Program} {t : TypeId} {x y : Dv} {hs hs' : List Hint} {C : List Prop} {r : Bool} (h : evEql P t x y hs = some (C, r, hs')) (hc : AllP C) {σ : Sg} {a b : Value}
    (ha : repDV σ x a) (hb : repDV σ y b) : (Op.equal t a b).run P σ.w = .ok r σ.w ∧ (noGuard a = true ∨ ((∃ cs, a = .agg cs) ∧ (∃ cs, b = .agg cs) ∧ P.eqGuardType P.depth t = false)) := by
  unfold evEql at h
  have step : ∀ (d : TypeDesc), P.underlying t = some d → (underlying t).run P σ.w = .ok d σ.w := fun d hd => run_underlying hd σ.w
  split at h
  all_goals first
    | (cases h; done)
    | skip
  rotate_right 2
  iterate 2
    · split at h
      · split at h
        · rename_i hg
          simp only [Option.some.injEq, Prod.mk.injEq] at h
          obtain ⟨rfl, rfl, rfl⟩ := h
          obtain ⟨c1, c2, c3, _⟩ := hc
          refine ⟨equal_fit c1 c2 ha hb c3, .inr ⟨?_, ?_, hg⟩⟩
          · obtain ⟨cs, e, _⟩ := (repDV_agg (by rfl)).1 ha
            exact ⟨cs, e⟩
          · obtain ⟨cs, e, _⟩ := (repDV_agg (by rfl)).1 hb
            exact ⟨cs, e⟩
        · cases h
      · cases h
  all_goals
    rename_i hu
    simp only [Option.some.injEq, Prod.mk.injEq] at h
    obtain ⟨rfl, rfl, rfl⟩ := h
    refine (fun q : _ ∧ _ => ⟨q.1, .inl q.2⟩) ?_
  · rw [repDV_bool ha, repDV_bool hb]
    exact ⟨equal_of fun n => by simp [Op.equalIn, step _ hu], rfl⟩
  · rw [repDV_ptr0 hb]
    rw [repDV_one (by rfl)] at ha
    simp only [repD, List.cons.injEq, and_true] at ha
    obtain ⟨b', _, _, rfl⟩ := ha
    exact ⟨equal_of fun n => by simp [Op.equalIn, step _ hu], rfl⟩
  · rw [repDV_ptr0 hb]
    rw [repDV_one (by rfl)] at ha
    simp only [repD, List.cons.injEq, and_true] at ha
    obtain ⟨b', o', us, rfl, _⟩ := ha
    exact ⟨equal_of fun n => by simp [Op.equalIn, step _ hu], rfl⟩
  · rw [repDV_ptr0 ha, repDV_ptr0 hb]
    exact ⟨equal_of fun n => by simp [Op.equalIn, step _ hu], rfl⟩
  · obtain ⟨_, A, c, rfl, _, _, hA, _⟩ := repDV_sl ha
    obtain ⟨_, B, c', rfl, _, _, hB, _⟩ := repDV_sl hb
    have hB' : B = none := by simpa using hB
    subst hB'
    subst hA
    refine ⟨?_, rfl⟩
    cases A <;> (refine equal_of fun n => ?_; simp [Op.equalIn, step _ hu])
  · obtain ⟨_, A, c, rfl, _, _, hA, _⟩ := repDV_own ha
    obtain ⟨_, B, c', rfl, _, _, hB, _⟩ := repDV_sl hb
    have hB' : B = none := by simpa using hB
    subst hB'
    subst hA
    refine ⟨?_, rfl⟩
    cases A <;> (refine equal_of fun n => ?_; simp [Op.equalIn, step _ hu])
  · rw [repDV_one (by rfl)] at ha
    simp only [repD, List.cons.injEq, and_true] at ha
    obtain ⟨bb, cc, aa, _, _, rfl, _⟩ := ha
    obtain ⟨_, B, c', rfl, _, _, hB, _⟩ := repDV_sl hb
    have hB' : B = none := by simpa using hB
    subst hB'
    exact ⟨equal_of fun n => by simp [Op.equalIn, step _ hu], rfl⟩
  · rw [repDV_fn0 hb]
    rw [repDV_one (by rfl)] at ha
    simp only [repD, List.cons.injEq, and_true] at ha
    obtain ⟨cs, rfl, _⟩ := ha
    exact ⟨equal_of fun n => by simp [Op.equalIn, step _ hu], rfl⟩
  · rw [repDV_fn0 ha, repDV_fn0 hb]
    exact ⟨equal_of fun n => by simp [Op.equalIn, step _ hu], rfl⟩

theorem evBin_sound {P : Program} {op : BinOp} {t : TypeId} {x y : Dv} {hs hs' : List Hint} {C : List Prop} {d : Dv} (h : evBin P op t x y hs = some (C, d, hs')) (hc : AllP C) {σ : Sg} {a b : Value}
    (ha : repDV σ x a) (hb : repDV σ y b) (ox oy : Operand) :
    ∃ v, (eqGuard op t ox oy a b).run P σ.w = .ok () σ.w ∧ (binOp op t a b).run P σ.w = .ok v σ.w ∧ repDV σ d v := by
  unfold evBin at h
  split at h
  · have ea := repDV_int ha
    have eb := repDV_int hb
    subst ea; subst eb
    split at h
    · rename_i ho
      obtain ⟨v, h1, h2⟩ := evShift_sound (P := P) (yk := ‹IntKind›) h hc σ
      refine ⟨v, by rw [eqGuard_at_int]; rfl, ?_, h2⟩
      cases op <;> first | (simp [isShift] at ho; done) | exact h1
    · split at h
      · rename_i hk
        subst hk
        obtain ⟨v, h1, h2⟩ := evInt_sound (P := P) h hc σ t
        exact ⟨v, by rw [eqGuard_at_int]; rfl, h1, h2⟩
      · cases h
  · rw [repDV_str ha, repDV_str hb]
    split at h
    · simp only [Option.some.injEq, Prod.mk.injEq] at h
      obtain ⟨rfl, rfl, rfl⟩ := h
      exact ⟨_, rfl, by rw [← ByteArray.toList_eq, ← ByteArray.toList_eq]; rfl, repDV_bool_mk _⟩
    · simp only [Option.some.injEq, Prod.mk.injEq] at h
      obtain ⟨rfl, rfl, rfl⟩ := h
      exact ⟨_, rfl, by rw [← ByteArray.toList_eq, ← ByteArray.toList_eq]; rfl, repDV_bool_mk _⟩
    · cases h
  · split at h
    · simp only [Option.map_eq_some_iff, Prod.mk.injEq] at h
      obtain ⟨⟨C', r, hs''⟩, h1, rfl, rfl, rfl⟩ := h
      obtain ⟨h2, h3⟩ := evEql_sound h1 hc ha hb
      refine ⟨.bool r, ?_, ?_, repDV_bool_mk _⟩
      · rcases h3 with h3 | ⟨⟨cs, rfl⟩, ⟨cs', rfl⟩, h3⟩
        · rw [eqGuard_no h3]; rfl
        · exact run_eqGuard_agg _ _ _ _ _ _ _ h3
      · rcases h3 with h3 | ⟨⟨cs, rfl⟩, ⟨cs', rfl⟩, h3⟩
        · rw [binOp_eql_no h3]; simp [h2]
        · rw [show binOp .eql t (.agg cs) (.agg cs') = (do pure (.bool (← Op.equal t (.agg cs) (.agg cs')))) from rfl]; simp [h2]
    · simp only [Option.map_eq_some_iff, Prod.mk.injEq] at h
      obtain ⟨⟨C', r, hs''⟩, h1, rfl, rfl, rfl⟩ := h
      obtain ⟨h2, h3⟩ := evEql_sound h1 hc ha hb
      refine ⟨.bool (!r), ?_, ?_, repDV_bool_mk _⟩
      · rcases h3 with h3 | ⟨⟨cs, rfl⟩, ⟨cs', rfl⟩, h3⟩
        · rw [eqGuard_no h3]; rfl
        · exact run_eqGuard_agg _ _ _ _ _ _ _ h3
      · rcases h3 with h3 | ⟨⟨cs, rfl⟩, ⟨cs', rfl⟩, h3⟩
        · rw [binOp_neq_no h3]; simp [h2]
        · rw [show binOp .neq t (.agg cs) (.agg cs') = (do pure (.bool (!(← Op.equal t (.agg cs) (.agg cs'))))) from rfl]; simp [h2]
    · cases h
end Go.Ev
