/- The evaluator, part P: why it is right: slice literals, variables, loads and stores. -/
import Derived.Test.YtpgogpohkldhaaaEvO
set_option linter.unusedVariables false
set_option linter.unusedSimpArgs false
namespace Go.Ev

section
variable {P : Program} {o : Oper} {a : Act} {σ : Sg} {ts : List Dv} {hs hs' : List Hint} {C : List Prop} {d : Dv}

theorem litExec {t : TypeId} {len : Nat} {parts : Array (Nat × Operand)} (ho : o.op = .buildSlice t len parts) {v : Value} {w' : World}
    (h : (Instr.buildSlice t len (parts.map fun q => (q.1, a.eval q.2))).run P σ.w = .ok v w') : (execOp a.eval o).run P σ.w = .ok (.value v) w' := by
  simp [execOp, ho, h]

theorem lit_core (hrep : RepT σ ts a) {t e : TypeId} {i : TypeInfo} {len : Nat} {parts : Array (Nat × Operand)} {xs : List Pl} (hu : P.underlying t = some (.slice e)) (hi : P.info? e = some i) (hz : zOk i = true)
    (hsz : len * i.size ≤ 16777216) (hl : litParts P ts e (P.cellsOf e) len parts.toList = some xs) :
    ∃ cells : Array Value, (Instr.buildSlice t len (parts.map fun q => (q.1, a.eval q.2))).run P σ.w = .ok (.slice (some ⟨σ.w.heap.size, 0, none⟩) len len) (σ.w.alloc (.cells cells e)) ∧
      repCs σ.w σ.stab xs cells.toList ∧ xs.length = len ∧ allSz i.size xs ∧ cells.size = len * i.size := by
  have hce : P.cellsOf e = i.size := by simp [Program.cellsOf, hi]
  rw [hce] at hl
  obtain ⟨cells, h1, h2, h3, h4⟩ := buildSlice_run (P := P) (t := t) (parts := parts.map fun q => (q.1, a.eval q.2)) (Q := fun cells => repCs σ.w σ.stab xs cells.toList ∧ xs.length = len ∧ allSz i.size xs) σ.w hu hi hz hsz (fun Z hZ => by
    obtain ⟨cells, k1, k2⟩ := lit_sound (P := P) hrep hl Z hZ
    exact ⟨cells, by rw [Array.toList_map]; exact k1, k2⟩)
  exact ⟨cells, h1, h2, h3, h4, by rw [← Array.length_toList, repCs_size _ _ h2, sizes_all h4, h3]⟩

theorem n_lit_snap (ok : Ok σ) (hrep : RepT σ ts a) {t e : TypeId} {i : TypeInfo} {len : Nat} {parts : Array (Nat × Operand)} {xs : List Pl} (ho : o.op = .buildSlice t len parts) (hu : P.underlying t = some (.slice e))
    (hi : P.info? e = some i) (hz : zOk i = true) (hne : i.size ≠ 0) (hsz : len * i.size ≤ 16777216) (hl : litParts P ts e (P.cellsOf e) len parts.toList = some xs) : OpOk P o a σ (.p (.sl true i.size xs)) σ.H := by
  obtain ⟨cells, hrun, hr, hlen, hall, hcs⟩ := lit_core (P := P) hrep hu hi hz hsz hl
  obtain ⟨to, ok'⟩ := grow_to ok (World.grownBy_alloc σ.w (.cells cells e) none)
  have hle : len ≤ maxLen := by
    have := Nat.le_mul_of_pos_right len (Nat.pos_of_ne_zero hne)
    simp only [maxLen]
    omega
  refine opOk_step (σ' := { σ with w := σ.w.alloc (.cells cells e) }) (litExec ho hrun) to ok' ?_
  rw [← hlen]
  exact snap_rep ok' hall (repCs_mono to.leaf.cells _ _ hr) (b := σ.w.heap.size) (heap_alloc_new σ.w _) (ok.new _ (Nat.le_refl _)) (unmapped_new ok) (List.take_of_length_le (Nat.le_refl _)) (Nat.le_refl _) (by rw [hlen]; exact hle)

theorem e_lit_own (ok : Ok σ) (hrep : RepT σ ts a) {t e : TypeId} {i : TypeInfo} {len : Nat} {parts : Array (Nat × Operand)} {xs : List Pl} (ho : o.op = .buildSlice t len parts) (hu : P.underlying t = some (.slice e))
    (hi : P.info? e = some i) (hz : zOk i = true) (hne : i.size ≠ 0) (hsz : len * i.size ≤ 16777216) (hl : litParts P ts e (P.cellsOf e) len parts.toList = some xs) :
    OpOk P o a σ (.own σ.H.length true i.size xs) (σ.H ++ [.log i.size e xs]) := by
  obtain ⟨cells, hrun, hr, hlen, hall, hcs⟩ := lit_core (P := P) hrep hu hi hz hsz hl
  have hle : len ≤ maxLen := by
    have := Nat.le_mul_of_pos_right len (Nat.pos_of_ne_zero hne)
    simp only [maxLen]
    omega
  let σ' : Sg := { σ with m := σ.m ++ [some σ.w.heap.size], H := σ.H ++ [.log i.size e xs], w := σ.w.alloc (.cells cells e) }
  have hblk : σ'.w.heap[σ.w.heap.size]? = some (.cells cells e (0, 0)) := heap_alloc_new σ.w _
  have hmlast : σ'.m[σ.H.length]? = some (some σ.w.heap.size) := by
    show (σ.m ++ [some σ.w.heap.size])[σ.H.length]? = _
    rw [List.getElem?_append_right (by rw [ok.len]; exact Nat.le_refl _), ok.len]
    simp
  have htk : cells.toList.take (xs.length * i.size) = cells.toList := List.take_of_length_le (by rw [hlen, ← hcs]; simp)
  obtain ⟨to, ok'⟩ := push_to (σ' := σ') ok rfl rfl rfl rfl (World.grownBy_alloc σ.w (.cells cells e) none) (.inr ⟨_, rfl, Nat.le_refl _, by simp [σ']⟩)
    (fun leaf => .inr ⟨σ.w.heap.size, cells, len, rfl, hblk, hcs, by rw [hlen]; exact Nat.le_refl _, hle, hall, by rw [htk]; exact repCs_mono leaf.cells _ _ hr⟩)
  refine opOk_step (σ' := σ') (litExec ho hrun) to ok' ?_
  rw [repDV_one rfl]
  simp only [repD]
  refine ⟨hall, some ⟨σ.w.heap.size, 0, none⟩, len, by rw [hlen], by rw [hlen]; exact Nat.le_refl _, hle, rfl, fun h => (by cases h), fun _ => ⟨σ.w.heap.size, 0, cells.toList, rfl, repCs_mono to.leaf.cells _ _ hr, new_cells hblk (fun o' ho' => ⟨.inr (ok.new _ (Nat.le_refl _)), fun id e' h1 h2 => ?_⟩) (List.take_of_length_le (Nat.le_refl _))⟩,
    e, xs, by simp [σ'], Nat.le_refl _, fun _ => .inr ⟨_, cells, hmlast, rfl, hblk, hcs⟩⟩
  have : id = σ.H.length := ok'.inj id σ.H.length _ h1 hmlast
  subst this
  have h3 : σ'.H[σ.H.length]? = some (.log i.size e xs) := by simp [σ']
  rw [h3] at h2
  cases h2
  show o' < xs.length * i.size
  rw [hlen, ← hcs]
  simpa using ho'

/-- a new variable -/
theorem new_var (ok : Ok σ) {t : TypeId} {dd : Dv} {v : Value} {st : Bool} (hsol : dd.solid = true) (hr : repDV σ dd v) (hx : (execOp a.eval o).run P σ.w = .ok (.value (.pointer (some ⟨σ.w.heap.size, 0, none⟩))) (σ.w.alloc (.cells v.cells t))) :
    OpOk P o a σ (.ref σ.H.length 0 []) (σ.H ++ [.var dd st]) := by
  have hcells := solid_cells hsol hr
  let σ' : Sg := { σ with m := σ.m ++ [some σ.w.heap.size], H := σ.H ++ [.var dd st], w := σ.w.alloc (.cells v.cells t) }
  have hblk : σ'.w.heap[σ.w.heap.size]? = some (.cells v.cells t (0, 0)) := heap_alloc_new σ.w _
  have hsz := repD_size _ _ hcells
  have hmlast : σ'.m[σ.H.length]? = some (some σ.w.heap.size) := by
    show (σ.m ++ [some σ.w.heap.size])[σ.H.length]? = _
    rw [List.getElem?_append_right (by rw [ok.len]; exact Nat.le_refl _), ok.len]
    simp
  obtain ⟨to, ok'⟩ := push_to (σ' := σ') ok rfl rfl rfl rfl (World.grownBy_alloc σ.w (.cells v.cells t) none) (.inr ⟨_, rfl, Nat.le_refl _, by simp [σ']⟩)
    (fun leaf => ⟨σ.w.heap.size, v.cells, t, rfl, hblk, by rw [← hsz, List.take_of_length_le (Nat.le_refl _)]; exact repD_leaf leaf dd _ hcells, by rw [← hsz]; simp⟩)
  refine opOk_step (σ' := σ') hx to ok' ?_
  rw [repDV_one rfl]
  simp only [repD]
  exact ⟨_, hmlast, ⟨dd, st, by simp [σ']⟩, rfl⟩

theorem e_alloc (ok : Ok σ) {t : TypeId} {i : TypeInfo} (ho : o.op = .alloc t) (hi : P.info? t = some i) (hz : i.zero.isSome = true) (hk : okT P t (zeroD P t) = true) (hsol : (zeroD P t).solid = true) :
    OpOk P o a σ (.ref σ.H.length 0 []) (σ.H ++ [.var (zeroD P t) true]) := by
  cases hzz : i.zero with
  | none => simp [hzz] at hz
  | some z =>
    have hr : repDV σ (zeroD P t) z := by
      unfold zeroD
      rw [hi]
      simp only [hzz]
      exact constD_rep
    refine new_var (v := z) (t := t) ok hsol hr ?_
    simp [execOp, ho, Instr.alloc, zeroValue, typeInfo, hi, hzz, newVar, newRow]

theorem e_box (ok : Ok σ) {t : TypeId} {x : Operand} {dd : Dv} (ho : o.op = .box t x) (hsol : dd.solid = true) (hr : repDV σ dd (a.eval x)) : OpOk P o a σ (.ref σ.H.length 0 []) (σ.H ++ [.var dd true]) := by
  refine new_var (v := a.eval x) (t := t) ok hsol hr ?_
  simp [execOp, ho, Instr.box, newVar, newRow]

/-! ### Places in variables -/

theorem getAt_sound {σ : Sg} : ∀ (path : List Nat) (dd : Dv) (hs hs' : List Hint) (C : List Prop) (off : Nat) (sub : Dv) (us : List Value), getAt dd path hs = some (C, off, sub, hs') → AllP C → repD σ dd us →
    ∃ x y z, us = x ++ (y ++ z) ∧ x.length = off ∧ repD σ sub y
  | [], dd, hs, hs', C, off, sub, us, h, hc, hr => by
    simp only [getAt, Option.some.injEq, Prod.mk.injEq] at h
    obtain ⟨rfl, rfl, rfl, rfl⟩ := h
    exact ⟨[], us, [], by simp, rfl, hr⟩
  | i :: path, dd, hs, hs', C, off, sub, us, h, hc, hr => by
    cases dd with
    | p q =>
      cases q with
      | agg xs =>
        simp only [getAt] at h
        split at h
        · rename_i x hx
          simp only [Option.map_eq_some_iff, Prod.mk.injEq] at h
          obtain ⟨⟨C1, off1, sub1, hs1⟩, h1, rfl, rfl, rfl, rfl⟩ := h
          simp only [repD, repC] at hr
          obtain ⟨p1, p2, p3, rfl, h2, h3, _⟩ := repCs_at hr hx
          obtain ⟨q1, q2, q3, rfl, h4, h5⟩ := getAt_sound path (.p x) _ _ _ _ _ p2 h1 hc (by simpa [repD] using h3)
          exact ⟨p1 ++ q1, q2, q3 ++ p3, by simp, by rw [List.length_append, h2, h4], h5⟩
        · cases h
      | arr n s xs =>
        simp only [getAt] at h
        split at h
        · rename_i y hs1
          simp only [Option.map_eq_some_iff, Prod.mk.injEq] at h
          obtain ⟨⟨C1, off1, sub1, hs1⟩, h1, rfl, rfl, rfl, rfl⟩ := h
          obtain ⟨hx, hc⟩ := hc
          simp only [repD, repC] at hr
          obtain ⟨hl, hall, hr⟩ := hr
          obtain ⟨p1, p2, p3, rfl, h2, h3, _⟩ := repCs_at hr hx
          obtain ⟨q1, q2, q3, rfl, h4, h5⟩ := getAt_sound path (.p y) _ _ _ _ _ p2 h1 hc (by simpa [repD] using h3)
          have hi : i < xs.length := (List.getElem?_eq_some_iff.1 hx).1
          exact ⟨p1 ++ q1, q2, q3 ++ p3, by simp, by rw [List.length_append, h2, h4, sizes_all (allSz_take hall i), List.length_take, Nat.min_eq_left (Nat.le_of_lt hi)], h5⟩
        · cases h
      | _ => simp [getAt] at h
    | agg xs =>
      simp only [getAt] at h
      split at h
      · rename_i x hx
        simp only [Option.map_eq_some_iff, Prod.mk.injEq] at h
        obtain ⟨⟨C1, off1, sub1, hs1⟩, h1, rfl, rfl, rfl, rfl⟩ := h
        simp only [repD] at hr
        obtain ⟨p1, p2, p3, rfl, h2, h3, _⟩ := repDs_at hr hx
        obtain ⟨q1, q2, q3, rfl, h4, h5⟩ := getAt_sound path x _ _ _ _ _ p2 h1 hc h3
        exact ⟨p1 ++ q1, q2, q3 ++ p3, by simp, by rw [List.length_append, h2, h4], h5⟩
      · cases h
    | arr n s xs =>
      simp only [getAt] at h
      split at h
      · rename_i x hx
        simp only [Option.map_eq_some_iff, Prod.mk.injEq] at h
        obtain ⟨⟨C1, off1, sub1, hs1⟩, h1, rfl, rfl, rfl, rfl⟩ := h
        simp only [repD] at hr
        obtain ⟨hl, hall, hr⟩ := hr
        obtain ⟨p1, p2, p3, rfl, h2, h3, _⟩ := repDs_at hr hx
        obtain ⟨q1, q2, q3, rfl, h4, h5⟩ := getAt_sound path x _ _ _ _ _ p2 h1 hc h3
        have hi : i < xs.length := (List.getElem?_eq_some_iff.1 hx).1
        exact ⟨p1 ++ q1, q2, q3 ++ p3, by simp, by rw [List.length_append, h2, h4, dsizes_all (fun y hy => hall y (List.mem_of_mem_take hy)), List.length_take, Nat.min_eq_left (Nat.le_of_lt hi)], h5⟩
      · cases h
    | _ => simp [getAt] at h

/-- what lies at a place of a variable -/
theorem at_place (ok : Ok σ) {id off : Nat} {path : List Nat} {dd sub : Dv} {st : Bool} {b : Nat} {C : List Prop} {off' : Nat} (hm : σ.m[id]? = some (some b)) (hH : σ.H[id]? = some (.var dd st)) (hg : getAt dd path hs = some (C, off', sub, hs')) (hc : AllP C) (he : off' = off) :
    ∃ cs t x y z, σ.w.heap[b]? = some (.cells cs t (0, 0)) ∧ dd.size ≤ cs.size ∧ cs.toList.take dd.size = x ++ (y ++ z) ∧ x.length = off ∧ repD σ sub y ∧ repD σ dd (cs.toList.take dd.size) ∧
      (∀ (j : Nat) (u : Value), y[j]? = some u → σ.w.cell? ⟨b, off + j, none⟩ = some u) := by
  obtain ⟨b', cs, t, h1, h2, h3, h4⟩ := ok.ent id _ _ hH hm
  cases h1
  obtain ⟨x, y, z, h5, h6, h7⟩ := getAt_sound path dd hs hs' C off' sub _ hg hc h3
  subst he
  refine ⟨cs, t, x, y, z, h2, h4, h5, h6, h7, h3, fun j u hu => ?_⟩
  rw [cell_of_row σ.w b _ cs t (0, 0) h2, ← Array.getElem?_toList, ← h6]
  have hj : j < y.length := (List.getElem?_eq_some_iff.1 hu).1
  have hlt : x.length + j < dd.size := by
    have := congrArg List.length h5
    simp only [List.length_take, Array.length_toList, List.length_append] at this
    omega
  have h8 : (cs.toList.take dd.size)[x.length + j]? = some u := by
    rw [h5, List.getElem?_append_right (by omega), List.getElem?_append_left (by omega)]
    simpa using hu
  rw [List.getElem?_take, if_pos hlt] at h8
  exact h8

theorem r_load (ok : Ok σ) (hrep : RepT σ ts a) {t : TypeId} {x : Operand} (ho : o.op = .load t x) (h : evR P o ts σ.H hs = some (C, d, hs')) (hc : AllP C) : OpOk P o a σ d σ.H := by
  simp only [evR, ho] at h
  have hx := arg_rep (P := P) hrep 0 x
  split at h
  · rename_i id off path hd
    rw [hd] at hx
    split at h
    · rename_i dd st hH
      split at h
      · rename_i C1 off' sub hs1 hg
        split at h
        · rename_i hk
          simp only [Option.some.injEq, Prod.mk.injEq] at h
          obtain ⟨rfl, rfl, rfl⟩ := h
          unfold okT at hk
          simp only [Bool.and_eq_true, beq_iff_eq] at hk
          obtain ⟨⟨⟨k1, k2⟩, k3⟩, k4⟩ := hk
          obtain ⟨hc1, hc2⟩ := allP_append.1 hc
          obtain ⟨b, hm, hv, hx⟩ := ref_one hx
          obtain ⟨cs, t', p1, p2, p3, _, _, _, _, h5, _, h6⟩ := at_place ok hm hH hg hc1 hc2.1
          obtain ⟨v, h7, h8⟩ := loadVar_run (P := P) h5 h6 k1 k4 k3 k2
          exact opOk_value ok (by simp [execOp, ho, hx, Instr.loadAt, Instr.sureAddr, h7]) h8
        · cases h
      · cases h
    · cases h
  · cases h
end
end Go.Ev
