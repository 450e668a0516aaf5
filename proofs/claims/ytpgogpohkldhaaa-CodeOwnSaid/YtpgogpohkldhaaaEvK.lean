/- The evaluator, part K: why it is right: what makes structs, arrays, slices; calls that turn no entry. -/
import Derived.Test.YtpgogpohkldhaaaEvJ
set_option linter.unusedVariables false
set_option linter.unusedSimpArgs false
namespace Go.Ev

theorem plains_rep {σ : Sg} : ∀ {ds : List Dv} {xs : List Pl} {us : List Value}, plains ds = some xs → repDs σ ds us → repCs σ.w σ.stab xs us
  | [], xs, us, h, hr => by simp only [plains, Option.some.injEq] at h; subst h; simpa [repDs, repCs] using hr
  | d :: ds, xs, us, h, hr => by
    simp only [plains] at h
    split at h
    · rename_i x ys h1 h2
      cases h
      simp only [repDs] at hr
      obtain ⟨a, b, rfl, h3, h4⟩ := hr
      simp only [repCs]
      refine ⟨a, b, rfl, ?_, plains_rep h2 h4⟩
      unfold Dv.plain at h1
      split at h1
      · cases h1; simpa [repD] using h3
      · cases h1
        simp only [repD] at h3
        obtain ⟨k1, A, c, k2, k3, k4, k5, k6, k7, _⟩ := h3
        simp only [repC]
        exact ⟨k1, A, c, k2, k3, k4, k5, k6, k7⟩
      · cases h1
    · cases h
theorem plains_size : ∀ {ds : List Dv} {xs : List Pl}, plains ds = some xs → xs.map Pl.size = ds.map Dv.size
  | [], xs, h => by simp only [plains, Option.some.injEq] at h; subst h; rfl
  | d :: ds, xs, h => by
    simp only [plains] at h
    split at h
    · rename_i x ys h1 h2
      cases h
      simp only [List.map_cons, plains_size h2]
      congr 1
      unfold Dv.plain at h1
      split at h1 <;> first | (cases h1; rfl) | cases h1
    · cases h

theorem mkAgg_rep {σ : Sg} {ds : List Dv} {cs : Array Value} (hr : repDs σ ds cs.toList) : repDV σ (mkAgg ds) (.agg cs) := by
  unfold mkAgg
  split
  · rename_i xs h
    rw [repDV_agg rfl]
    exact ⟨cs, rfl, by simp only [repD, repC]; exact plains_rep h hr⟩
  · rw [repDV_agg rfl]
    exact ⟨cs, rfl, by simp only [repD]; exact hr⟩

theorem zeroD_rep {P : Program} {σ : Sg} {t : TypeId} {d : Dv} (h : zeroD P t = d) (hj : d ≠ .junk) : ∃ i v, P.info? t = some i ∧ i.zero = some v ∧ repDV σ d v := by
  unfold zeroD at h
  split at h
  · rename_i i hi
    split at h
    · rename_i v hv
      exact ⟨i, v, hi, hv, by rw [← h]; exact constD_rep⟩
    · exact absurd h.symm hj
  · exact absurd h.symm hj

theorem mapM_info {P : Program} : ∀ (fs : List Field), (∀ f, f ∈ fs → (P.info? f.type).isSome = true) →
    fs.mapM (fun f => (P.info? f.type).map fun i => (f.offset, i.size)) = some (fs.map fun f => (f.offset, P.cellsOf f.type))
  | [], _ => by simp
  | f :: fs, h => by
    have h1 := h f (List.mem_cons_self ..)
    cases hi : P.info? f.type with
    | none => simp [hi] at h1
    | some i =>
      simp [List.mapM_cons, hi, mapM_info fs (fun g hg => h g (List.mem_cons_of_mem _ hg)), Program.cellsOf]

section
variable {P : Program} {o : Oper} {a : Act} {σ : Sg} {ts : List Dv} {hs hs' : List Hint} {C : List Prop} {d : Dv}

theorem tupAll_rep (hrep : RepT σ ts a) (f : Nat → TypeId) (parts : List (Nat × Operand)) (hsol : solidAll (tupAll P ts f parts) = true) :
    ∃ qs : List (Nat × Dv × Value), (qs.map fun q => (q.1, q.2.1)) = tupAll P ts f parts ∧ (qs.map fun q => (q.1, q.2.2)) = parts.map (fun q => (q.1, a.eval q.2)) ∧ (∀ q, q ∈ qs → q.2.1.solid = true ∧ repDV σ q.2.1 q.2.2) := by
  refine ⟨parts.map fun q => (q.1, argD P ts (f q.1) q.2, a.eval q.2), by simp [tupAll], by simp, fun q hq => ?_⟩
  obtain ⟨x, hx, rfl⟩ := List.mem_map.1 hq
  refine ⟨?_, arg_rep hrep _ _⟩
  simp only [solidAll, tupAll, List.all_map, List.all_eq_true] at hsol
  exact hsol x hx

theorem take_replicate_sum (n s i : Nat) (h : i ≤ n) : ((List.replicate n s).take i).sum = i * s := by
  rw [List.take_replicate, Nat.min_eq_left h, List.sum_replicate_nat]

theorem n_build {t : TypeId} {parts : Array (Nat × Operand)} (ok : Ok σ) (hrep : RepT σ ts a) (ho : o.op = .build t parts) (h : evN P o ts hs = some (C, d, hs')) : OpOk P o a σ d σ.H := by
  simp only [evN, ho] at h
  have run : ∀ cells, P.built t (parts.map fun q => (q.1, a.eval q.2)).toList = some cells → (execOp a.eval o).run P σ.w = .ok (.value (.agg cells)) σ.w := fun cells hv => by
    have := run_build (P := P) σ.w t (parts.map fun q => (q.1, a.eval q.2)) cells hv
    simp [execOp, ho, this]
  split at h
  · rename_i fs zs hu hz
    split at h
    · rename_i hk
      simp only [Bool.and_eq_true, beq_iff_eq] at hk
      obtain ⟨⟨hsol, hlen⟩, hall⟩ := hk
      simp only [Option.map_eq_some_iff, Prod.mk.injEq] at h
      obtain ⟨ds, hset, rfl, rfl, rfl⟩ := h
      obtain ⟨it, z, hit, hitz, hzr0⟩ := zeroD_rep (σ := σ) hz (by simp)
      obtain ⟨cs, rfl, hzr⟩ := (repDV_agg rfl).1 hzr0
      simp only [repD, repC] at hzr
      have hf : ∀ i, i < fs.size → ∃ f z, fs[i]? = some f ∧ zs[i]? = some z ∧ f.offset = Pl.sizes (zs.take i) ∧ P.cellsOf f.type = z.size ∧ (P.info? f.type).isSome = true := by
        intro i hi
        have hi' : i < zs.length := by omega
        have h1 := List.all_eq_true.1 hall i (List.mem_range.2 hi')
        unfold fieldOk at h1
        have hzi : zs.getD i default = zs[i] := by simp [List.getD, hi']
        rw [hzi] at h1
        have hfi : fs[i]? = some fs[i] := Array.getElem?_eq_getElem hi
        rw [hfi] at h1
        simp only [Bool.and_eq_true, beq_iff_eq] at h1
        obtain ⟨⟨⟨⟨⟨h2, h3⟩, h4⟩, _⟩, _⟩, _⟩ := h1
        exact ⟨fs[i], zs[i], hfi, List.getElem?_eq_getElem hi', h2, h3, h4⟩
      have hmap := mapM_info (P := P) fs.toList (fun f hf' => by
        obtain ⟨i, hi, rfl⟩ := List.getElem_of_mem hf'
        obtain ⟨f, z, h1, _, _, _, h2⟩ := hf i (by simpa using hi)
        have : fs.toList[i] = f := by
          have := (Array.getElem?_eq_some_iff.1 h1).2
          simpa using this
        rw [this]; exact h2)
      obtain ⟨qs, hq1, hq2, hq3⟩ := tupAll_rep (P := P) hrep (fieldT P t) parts.toList hsol
      rw [← hq1] at hset
      obtain ⟨cells', hfill, hr, _⟩ := fill_sound (σ := σ) (place := ((fs.toList.map fun f => (f.offset, P.cellsOf f.type)).toArray[·]?)) (sz := zs.map Pl.size) (by
        intro i s hi
        rw [List.getElem?_map] at hi
        obtain ⟨z, hz1, hz2⟩ := Option.map_eq_some_iff.1 hi
        have hi' : i < zs.length := (List.getElem?_eq_some_iff.1 hz1).1
        obtain ⟨f, z', h1, h2, h3, h4, _⟩ := hf i (by omega)
        rw [hz1] at h2
        cases h2
        have : fs.toList[i]? = some f := by simpa using h1
        simp only [List.getElem?_toArray, List.getElem?_map, this, Option.map_some, h3, h4, hz2, psizes_map, List.map_take]) qs (zs.map .p) ds cs (by simp [Dv.size, Function.comp_def]) (repDs_p.2 hzr) hq3 hset
      have hb : P.built t (parts.map fun q => (q.1, a.eval q.2)).toList = some cells' := by
        unfold Program.built
        rw [hit, hu]
        simp only [hitz, hmap, Value.cells]
        rw [Array.toList_map, ← hq2]
        exact hfill
      exact opOk_value ok (run _ hb) (mkAgg_rep hr)
    · cases h
  · rename_i n e n' s zs hu hz
    split at h
    · rename_i hk
      simp only [Bool.and_eq_true, decide_eq_true_eq] at hk
      obtain ⟨⟨hsol, hse⟩, hie⟩ := hk
      simp only [Option.bind_eq_some_iff] at h
      obtain ⟨ds, hset, h⟩ := h
      obtain ⟨it, z, hit, hitz, hzr0⟩ := zeroD_rep (σ := σ) hz (by simp)
      obtain ⟨cs, rfl, hzr⟩ := (repDV_agg rfl).1 hzr0
      simp only [repD, repC] at hzr
      obtain ⟨hzl, hzs, hzr⟩ := hzr
      obtain ⟨qs, hq1, hq2, hq3⟩ := tupAll_rep (P := P) hrep (fieldT P t) parts.toList hsol
      rw [← hq1] at hset
      have hszs : (zs.map Dv.p).map Dv.size = List.replicate n' s := by
        rw [← hzl]
        apply List.ext_getElem?
        intro j
        simp only [List.getElem?_map, List.getElem?_replicate]
        cases hj : zs[j]? with
        | none =>
          have := List.getElem?_eq_none_iff.1 hj
          simp; omega
        | some x =>
          have h1 := (List.getElem?_eq_some_iff.1 hj).1
          simp [h1, Dv.size, hzs x (List.mem_of_getElem? hj)]
      obtain ⟨cells', hfill, hr, hsz'⟩ := fill_sound (σ := σ) (place := fun i => some (i * s, s)) (sz := List.replicate n' s) (by
        intro i s' hi
        simp only [List.getElem?_replicate] at hi
        split at hi
        · cases hi
          rw [take_replicate_sum _ _ _ (by omega)]
        · cases hi) qs (zs.map .p) ds cs hszs (repDs_p.2 hzr) hq3 hset
      have hlen' : ds.length = n' := by
        have := congrArg List.length hsz'
        simpa using this
      have hall' : ∀ x, x ∈ ds → x.size = s := by
        intro x hx
        have : x.size ∈ ds.map Dv.size := List.mem_map_of_mem hx
        rw [hsz'] at this
        exact List.eq_of_mem_replicate this
      have hb : P.built t (parts.map fun q => (q.1, a.eval q.2)).toList = some cells' := by
        unfold Program.built
        rw [hit, hu]
        cases hie' : P.info? e with
        | none => simp [hie'] at hie
        | some ie =>
          have : ie.size = s := by rw [← hse]; simp [Program.cellsOf, hie']
          simp only [hitz, hie', Value.cells, this]
          rw [Array.toList_map, ← hq2]
          exact hfill
      split at h
      · rename_i xs hxs
        simp only [Option.some.injEq, Prod.mk.injEq] at h
        obtain ⟨rfl, rfl, rfl⟩ := h
        refine opOk_value ok (run _ hb) ?_
        rw [repDV_agg rfl]
        have hps := plains_size hxs
        refine ⟨cells', rfl, by
          simp only [repD, repC]
          refine ⟨?_, ?_, plains_rep hxs hr⟩
          · have := congrArg List.length hps
            simp only [List.length_map] at this
            rw [this, hlen']
          · intro x hx
            have : x.size ∈ xs.map Pl.size := List.mem_map_of_mem hx
            rw [hps, hsz'] at this
            exact List.eq_of_mem_replicate this⟩
      · simp only [Option.some.injEq, Prod.mk.injEq] at h
        obtain ⟨rfl, rfl, rfl⟩ := h
        refine opOk_value ok (run _ hb) ?_
        rw [repDV_agg rfl]
        exact ⟨cells', rfl, by simp only [repD]; exact ⟨hlen', hall', hr⟩⟩
    · cases h
  · cases h
end
end Go.Ev
