/- The evaluator, part F: why it is right: parts, places, loads. -/
import Derived.Test.YtpgogpohkldhaaaEvE
set_option linter.unusedVariables false
set_option linter.unusedSimpArgs false
namespace Go.Ev

mutual
theorem repC_one {w : World} {S : Nat → Nat → Prop} : ∀ (x : Pl) (vs : List Value), repC w S x vs → ∀ u, u ∈ vs → u.oneCell' = true
  | .int _ _, _, h, u, hu => by simp only [repC] at h; subst h; cases List.mem_singleton.1 hu; rfl
  | .bool _, _, h, u, hu => by simp only [repC] at h; subst h; cases List.mem_singleton.1 hu; rfl
  | .str _, _, h, u, hu => by simp only [repC] at h; subst h; cases List.mem_singleton.1 hu; rfl
  | .ptr0, _, h, u, hu => by simp only [repC] at h; subst h; cases List.mem_singleton.1 hu; rfl
  | .fn0, _, h, u, hu => by simp only [repC] at h; subst h; cases List.mem_singleton.1 hu; rfl
  | .if0, _, h, u, hu => by simp only [repC] at h; subst h; cases List.mem_singleton.1 hu; rfl
  | .map0, _, h, u, hu => by simp only [repC] at h; subst h; cases List.mem_singleton.1 hu; rfl
  | .fnv _, _, h, u, hu => by simp only [repC] at h; subst h; cases List.mem_singleton.1 hu; rfl
  | .agg xs, vs, h, u, hu => by
    simp only [repC] at h
    exact repCs_one xs vs h u hu
  | .arr n s xs, vs, h, u, hu => by
    simp only [repC] at h
    exact repCs_one xs vs h.2.2 u hu
  | .sl _ _ _, _, h, u, hu => by
    simp only [repC] at h
    obtain ⟨_, A, c, h, _⟩ := h
    subst h; cases List.mem_singleton.1 hu; rfl
  | .iface _ _, _, h, u, hu => by
    simp only [repC] at h
    obtain ⟨v, h, _⟩ := h
    subst h; cases List.mem_singleton.1 hu; rfl
theorem repCs_one {w : World} {S : Nat → Nat → Prop} : ∀ (xs : List Pl) (vs : List Value), repCs w S xs vs → ∀ u, u ∈ vs → u.oneCell' = true
  | [], _, h, u, hu => by simp only [repCs] at h; subst h; cases hu
  | x :: xs, vs, h, u, hu => by
    simp only [repCs] at h
    obtain ⟨us, us', rfl, h1, h2⟩ := h
    rcases List.mem_append.1 hu with h3 | h3
    · exact repC_one x us h1 u h3
    · exact repCs_one xs us' h2 u h3
end

mutual
theorem repD_size {σ : Sg} : ∀ (d : Dv) (vs : List Value), repD σ d vs → vs.length = d.size
  | .p x, vs, h => by simp only [repD] at h; exact repC_size x vs h
  | .elem _, _, h => by simp only [repD] at h; obtain ⟨b, o, us, rfl, _⟩ := h; rfl
  | .ref _ _ _, _, h => by simp only [repD] at h; obtain ⟨b, _, _, rfl⟩ := h; rfl
  | .own _ _ _ _, _, h => by simp only [repD] at h; obtain ⟨_, A, c, rfl, _⟩ := h; rfl
  | .view _ _ _ _ _ _, _, h => by simp only [repD] at h; obtain ⟨b, c, a, _, _, rfl, _⟩ := h; rfl
  | .agg xs, vs, h => by simp only [repD] at h; simpa [Dv.size] using repDs_size xs vs h
  | .arr n s xs, vs, h => by
    simp only [repD] at h
    obtain ⟨h1, h2, h3⟩ := h
    rw [repDs_size xs vs h3, Dv.size, ← h1]
    exact dsizes_all h2
  | .fn _ _, _, h => by simp only [repD] at h; obtain ⟨cs, rfl, _⟩ := h; rfl
  | .iface _ _, _, h => by simp only [repD] at h; obtain ⟨cs, rfl, _⟩ := h; rfl
  | .tup _, _, h => by simp only [repD] at h; obtain ⟨cs, rfl, _⟩ := h; rfl
  | .mp _, _, h => by simp only [repD] at h; obtain ⟨b, _, _, rfl⟩ := h; rfl
  | .junk, _, h => by simpa [repD, Dv.size] using h
theorem repDs_size {σ : Sg} : ∀ (ds : List Dv) (vs : List Value), repDs σ ds vs → vs.length = Dv.sizes ds
  | [], _, h => by simp only [repDs] at h; subst h; rfl
  | x :: xs, vs, h => by
    simp only [repDs] at h
    obtain ⟨us, us', rfl, h1, h2⟩ := h
    rw [List.length_append, repD_size x us h1, repDs_size xs us' h2, Dv.sizes]
theorem dsizes_all {s : Nat} : ∀ {xs : List Dv}, (∀ x, x ∈ xs → x.size = s) → Dv.sizes xs = xs.length * s
  | [], _ => by simp [Dv.sizes]
  | x :: xs, h => by
    rw [Dv.sizes, h x (List.mem_cons_self ..), dsizes_all (fun y hy => h y (List.mem_cons_of_mem _ hy)), List.length_cons, Nat.add_mul]
    omega
end

theorem repCs_at {w : World} {S : Nat → Nat → Prop} {xs : List Pl} {us : List Value} {i : Nat} {y : Pl} (h : repCs w S xs us) (hy : xs[i]? = some y) :
    ∃ a b c, us = a ++ (b ++ c) ∧ a.length = Pl.sizes (xs.take i) ∧ repC w S y b ∧ b.length = y.size ∧ repCs w S (xs.take i) a ∧ repCs w S (xs.drop (i + 1)) c := by
  have hi : i < xs.length := (List.getElem?_eq_some_iff.1 hy).1
  have hx : xs = xs.take i ++ (y :: xs.drop (i + 1)) := by
    rw [← (List.getElem?_eq_some_iff.1 hy).2, List.getElem_cons_drop, List.take_append_drop]
  rw [hx] at h
  obtain ⟨a, r, rfl, h1, h2⟩ := repCs_split h
  simp only [repCs] at h2
  obtain ⟨b, c, rfl, h3, h4⟩ := h2
  exact ⟨a, b, c, rfl, repCs_size _ _ h1, h3, repC_size _ _ h3, h1, h4⟩

theorem repDs_append {σ : Sg} {xs ys : List Dv} {us vs : List Value} (h : repDs σ xs us) (k : repDs σ ys vs) : repDs σ (xs ++ ys) (us ++ vs) := by
  induction xs generalizing us with
  | nil => simp only [repDs] at h; subst h; simpa using k
  | cons x xs ih =>
    simp only [repDs] at h
    obtain ⟨a, b, rfl, h1, h2⟩ := h
    simp only [List.cons_append, repDs, List.append_assoc]
    exact ⟨a, b ++ vs, rfl, h1, ih h2⟩
theorem repDs_split {σ : Sg} {xs ys : List Dv} {us : List Value} (h : repDs σ (xs ++ ys) us) : ∃ a b, us = a ++ b ∧ repDs σ xs a ∧ repDs σ ys b := by
  induction xs generalizing us with
  | nil => exact ⟨[], us, rfl, by simp [repDs], h⟩
  | cons x xs ih =>
    simp only [List.cons_append, repDs] at h
    obtain ⟨a, b, rfl, h1, h2⟩ := h
    obtain ⟨c, d, rfl, h3, h4⟩ := ih h2
    exact ⟨a ++ c, d, by simp, by simp only [repDs]; exact ⟨a, c, rfl, h1, h3⟩, h4⟩
theorem repDs_at {σ : Sg} {xs : List Dv} {us : List Value} {i : Nat} {y : Dv} (h : repDs σ xs us) (hy : xs[i]? = some y) :
    ∃ a b c, us = a ++ (b ++ c) ∧ a.length = Dv.sizes (xs.take i) ∧ repD σ y b ∧ b.length = y.size ∧ repDs σ (xs.take i) a ∧ repDs σ (xs.drop (i + 1)) c := by
  have hx : xs = xs.take i ++ (y :: xs.drop (i + 1)) := by
    rw [← (List.getElem?_eq_some_iff.1 hy).2, List.getElem_cons_drop, List.take_append_drop]
  rw [hx] at h
  obtain ⟨a, r, rfl, h1, h2⟩ := repDs_split h
  simp only [repDs] at h2
  obtain ⟨b, c, rfl, h3, h4⟩ := h2
  exact ⟨a, b, c, rfl, repDs_size _ _ h1, h3, repD_size _ _ h3, h1, h4⟩

theorem repDs_p {σ : Sg} : ∀ {xs : List Pl} {us : List Value}, repDs σ (xs.map .p) us ↔ repCs σ.w σ.stab xs us
  | [], us => by simp [repDs, repCs]
  | x :: xs, us => by
    simp only [List.map_cons, repDs, repCs, repD]
    constructor
    · rintro ⟨a, b, rfl, h1, h2⟩
      exact ⟨a, b, rfl, h1, repDs_p.1 h2⟩
    · rintro ⟨a, b, rfl, h1, h2⟩
      exact ⟨a, b, rfl, h1, repDs_p.2 h2⟩

theorem isAggT_run {P : Program} {t : TypeId} (h : (P.underlying t).isSome = true) (w : World) : (isAgg t).run P w = .ok (isAggT P t) w := by
  cases hu : P.underlying t with
  | none => simp [hu] at h
  | some d =>
    unfold isAgg isAggT
    rw [Sem.run_bind, run_underlying hu w]
    cases d <;> simp [hu]

theorem sizeOf_run {P : Program} {t : TypeId} (h : (P.info? t).isSome = true) (w : World) : (sizeOf t).run P w = .ok (P.cellsOf t) w := by
  cases hi : P.info? t with
  | none => simp [hi] at h
  | some i => simp [sizeOf, typeInfo, hi, Program.cellsOf]

/-- the part of an aggregate's cells that stands for a part -/
theorem part_run {P : Program} {σ : Sg} {t : TypeId} {d : Dv} {cs : Array Value} {a b c : List Value} (hcs : cs.toList = a ++ (b ++ c)) (hr : repD σ d b) (hs : P.cellsOf t = d.size) (hi : (P.info? t).isSome = true)
    (hu : (P.underlying t).isSome = true) (ha : isAggT P t = d.isAgg) (hn : d.size ≠ 0) : ∃ v, (part t cs a.length).run P σ.w = .ok v σ.w ∧ repDV σ d v := by
  have hb : b.length = d.size := repD_size _ _ hr
  unfold part
  simp only [Sem.run_bind, isAggT_run hu, Result.andThen_ok]
  cases hagg : d.isAgg with
  | true =>
    rw [ha, hagg]
    simp only [if_true, Sem.run_bind, sizeOf_run hi, Result.andThen_ok, Sem.run_pure]
    refine ⟨_, rfl, ?_⟩
    rw [repDV_agg hagg]
    refine ⟨_, rfl, ?_⟩
    have : (cs.extract a.length (a.length + P.cellsOf t)).toList = b := by
      rw [Array.toList_extract, hcs, hs, ← hb, List.extract_eq_take_drop]
      simp
    rw [this]
    exact hr
  | false =>
    rw [ha, hagg]
    simp only [Bool.false_eq_true, if_false]
    have h1 : d.size = 1 := by
      cases d with
      | p x => cases x <;> first | rfl | (simp [Dv.isAgg, Pl.isAgg] at hagg)
      | agg _ => simp [Dv.isAgg] at hagg
      | arr _ _ _ => simp [Dv.isAgg] at hagg
      | _ => rfl
    rw [h1] at hb
    obtain ⟨v, rfl⟩ : ∃ v, b = [v] := by
      match b, hb with
      | [v], _ => exact ⟨v, rfl⟩
    have hv : cs[a.length]? = some v := by
      rw [← Array.getElem?_toList, hcs]
      simp
    rw [hv]
    exact ⟨v, rfl, (repDV_one hagg).2 hr⟩

theorem fieldOf_sound {P : Program} {σ : Sg} {t : TypeId} {x d : Dv} {i : Nat} {v : Value} (h : fieldOf P t x i = some d) (hr : repDV σ x v) :
    ∃ u, (Instr.field t v i).run P σ.w = .ok u σ.w ∧ repDV σ d u := by
  unfold fieldOf at h
  split at h
  · rename_i fs xs hu
    split at h
    · rename_i y hy
      split at h
      · rename_i hok
        cases h
        unfold fieldOk at hok
        split at hok
        · rename_i f hf
          simp only [Bool.and_eq_true, beq_iff_eq, bne_iff_ne] at hok
          obtain ⟨⟨⟨⟨⟨h1, h2⟩, h3⟩, h4⟩, h5⟩, h6⟩ := hok
          rw [repDV_agg rfl] at hr
          obtain ⟨cs, rfl, hr⟩ := hr
          simp only [repD, repC] at hr
          obtain ⟨a, b, c, e, ha, hb, _⟩ := repCs_at hr hy
          obtain ⟨u, hu1, hu2⟩ := part_run (P := P) (σ := σ) (t := f.type) (d := .p y) e (by simpa [repD] using hb) h2 h3 h5 h4 h6
          refine ⟨u, ?_, hu2⟩
          rw [ha, ← h1] at hu1
          simp [Instr.field, run_underlying hu, hf, asAgg, hu1]
        · cases hok
      · cases h
    · cases h
  · rename_i fs xs hu
    split at h
    · rename_i y hy
      split at h
      · rename_i hok
        cases h
        unfold fieldOk at hok
        split at hok
        · rename_i f hf
          simp only [Bool.and_eq_true, beq_iff_eq, bne_iff_ne] at hok
          obtain ⟨⟨⟨⟨⟨h1, h2⟩, h3⟩, h4⟩, h5⟩, h6⟩ := hok
          rw [repDV_agg rfl] at hr
          obtain ⟨cs, rfl, hr⟩ := hr
          simp only [repD] at hr
          obtain ⟨a, b, c, e, ha, hb, _⟩ := repDs_at hr hy
          obtain ⟨u, hu1, hu2⟩ := part_run (P := P) (σ := σ) (t := f.type) (d := d) e hb h2 h3 h5 h4 h6
          refine ⟨u, ?_, hu2⟩
          rw [ha, ← h1] at hu1
          simp [Instr.field, run_underlying hu, hf, asAgg, hu1]
        · cases hok
      · cases h
    · cases h
  · cases h

theorem Addr.add_mk (b o n : Nat) : (⟨b, o, none⟩ : Addr).add n = ⟨b, o + n, none⟩ := Addr.add_lit b o n

/-- the cells of an element -/
theorem cells_at {w : World} {S : Nat → Nat → Prop} {s : Nat} {xs : List Pl} {us : List Value} {b o i : Nat} {y : Pl} (hs : allSz s xs) (hr : repCs w S xs us) (hc : Cells w S b o us) (hy : xs[i]? = some y) :
    ∃ uy, repC w S y uy ∧ Cells w S b (o + i * s) uy := by
  obtain ⟨a, uy, c, rfl, ha, hb, _⟩ := repCs_at hr hy
  have hi : i < xs.length := (List.getElem?_eq_some_iff.1 hy).1
  have hl : a.length = i * s := by
    rw [ha, sizes_all (allSz_take hs i), List.length_take, Nat.min_eq_left (Nat.le_of_lt hi)]
  refine ⟨uy, hb, ?_⟩
  have h2 := (Cells.append (Cells.append hc).2).1
  rwa [hl] at h2

theorem loadCells_run {P : Program} {w : World} {S : Nat → Nat → Prop} {b o : Nat} {us : List Value} (hc : Cells w S b o us) : (loadCells ⟨b, o, none⟩ us.length).run P w = .ok us.toArray w :=
  run_loadCells_list w ⟨b, o, none⟩ us fun j u hu => by rw [Addr.add_mk]; exact (hc j u hu).1

/-- a load of what stands at a place -/
theorem loadVar_run {P : Program} {σ : Sg} {t : TypeId} {d : Dv} {b o : Nat} {us : List Value} (hr : repD σ d us) (hc : ∀ (j : Nat) (u : Value), us[j]? = some u → σ.w.cell? ⟨b, o + j, none⟩ = some u) (hs : P.cellsOf t = d.size)
    (hi : (P.info? t).isSome = true) (hu : (P.underlying t).isSome = true) (ha : isAggT P t = d.isAgg) : ∃ v, (loadVar t ⟨b, o, none⟩).run P σ.w = .ok v σ.w ∧ repDV σ d v := by
  have hb : us.length = d.size := repD_size _ _ hr
  unfold loadVar
  simp only [Sem.run_bind, isAggT_run hu, Result.andThen_ok]
  cases hagg : d.isAgg with
  | true =>
    rw [ha, hagg]
    have hl := run_loadCells_list (P := P) σ.w ⟨b, o, none⟩ us (fun j u hu => by rw [Addr.add_mk]; exact hc j u hu)
    rw [hb, ← hs] at hl
    simp only [if_true, Sem.run_bind, sizeOf_run hi, Result.andThen_ok, hl, Sem.run_pure]
    exact ⟨_, rfl, (repDV_agg hagg).2 ⟨_, rfl, by simpa using hr⟩⟩
  | false =>
    rw [ha, hagg]
    simp only [Bool.false_eq_true, if_false]
    have h1 : d.size = 1 := by
      cases d with
      | p x => cases x <;> first | rfl | (simp [Dv.isAgg, Pl.isAgg] at hagg)
      | agg _ => simp [Dv.isAgg] at hagg
      | arr _ _ _ => simp [Dv.isAgg] at hagg
      | _ => rfl
    rw [h1] at hb
    obtain ⟨v, rfl⟩ : ∃ v, us = [v] := by
      match us, hb with
      | [v], _ => exact ⟨v, rfl⟩
    have := hc 0 v rfl
    simp only [Nat.add_zero] at this
    rw [run_load, this]
    exact ⟨v, rfl, (repDV_one hagg).2 hr⟩
end Go.Ev
