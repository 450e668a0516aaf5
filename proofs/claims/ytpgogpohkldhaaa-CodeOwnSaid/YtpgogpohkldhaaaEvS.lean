/- The evaluator, part S: why it is right: behind a call. -/
import Derived.Test.YtpgogpohkldhaaaEvR
set_option linter.unusedVariables false
set_option linter.unusedSimpArgs false
namespace Go.Ev

section
variable {P : Program} {o : Oper} {a : Act} {σ : Sg} {ts : List Dv}

/-- the caller's state behind a call -/
def behind (σ : Sg) (ids : List Nat) (Hb : List Ent) (τ : Sg) : Sg :=
  { F := σ.F, B := σ.B, m := putBack σ.m ids τ.m, H := putBack σ.H ids Hb, w := τ.w }

theorem behind_to (ok : Ok σ) {ids : List Nat} {Hin Hb : List Ent} {τ : Sg} (ho : once ids = true) (hin : subEnts σ.H ids ids = some Hin) (to : To (callee σ ids Hin) τ) (okτ : Ok τ) (hle : ids.length ≤ τ.H.length)
    (hb : Ent.rns (fromIds ids σ.H.length) τ.H = some Hb) :
    To σ (behind σ ids Hb τ) ∧ Ok (behind σ ids Hb τ) ∧ Rn (fromIds ids σ.H.length) τ (behind σ ids Hb τ) := by
  have hbl : Hb.length = τ.H.length := ents_rns_length hb
  have hml : τ.m.length = τ.H.length := okτ.len
  have hidl : ∀ i, i ∈ ids → i < σ.H.length := by
    intro i hi
    obtain ⟨j, hj, rfl⟩ := List.getElem_of_mem hi
    obtain ⟨e0, _, h3, _⟩ := subEnts_at hin (List.getElem?_eq_getElem hj)
    exact (List.getElem?_eq_some_iff.1 h3).1
  have hidm : ∀ i, i ∈ ids → i < σ.m.length := fun i hi => by rw [ok.len]; exact hidl i hi
  -- where each entry of the caller's stands
  have mo : ∀ id, id < σ.H.length → id ∉ ids → (putBack σ.m ids τ.m)[id]? = σ.m[id]? := fun id h1 h2 => putBack_other _ _ _ _ (by omega) (by rw [ok.len]; exact h1) h2
  have Ho : ∀ id, id < σ.H.length → id ∉ ids → (putBack σ.H ids Hb)[id]? = σ.H[id]? := fun id h1 h2 => putBack_other _ _ _ _ (by omega) h1 h2
  have ma : ∀ (j id : Nat), ids[j]? = some id → (putBack σ.m ids τ.m)[id]? = τ.m[j]? := fun j id h => putBack_at _ _ _ _ _ ho (by omega) hidm h
  have Ha : ∀ (j id : Nat), ids[j]? = some id → (putBack σ.H ids Hb)[id]? = Hb[j]? := fun j id h => putBack_at _ _ _ _ _ ho (by omega) hidl h
  have mn : ∀ j, ids.length ≤ j → (putBack σ.m ids τ.m)[σ.H.length + (j - ids.length)]? = τ.m[j]? := fun j h => by rw [← ok.len]; exact putBack_new _ _ _ _ (by omega) h
  have Hn : ∀ j, ids.length ≤ j → (putBack σ.H ids Hb)[σ.H.length + (j - ids.length)]? = Hb[j]? := fun j h => putBack_new _ _ _ _ (by omega) h
  -- every entry is one of the three
  have three : ∀ id, id < σ.H.length + (τ.H.length - ids.length) → (id < σ.H.length ∧ id ∉ ids) ∨ (∃ j : Nat, ids[j]? = some id) ∨ (∃ j : Nat, ids.length ≤ j ∧ id = σ.H.length + (j - ids.length)) := by
    intro id h
    by_cases h1 : id < σ.H.length
    · by_cases h2 : id ∈ ids
      · obtain ⟨j, hj, rfl⟩ := List.getElem_of_mem h2
        exact .inr (.inl ⟨j, List.getElem?_eq_getElem hj⟩)
      · exact .inl ⟨h1, h2⟩
    · exact .inr (.inr ⟨ids.length + (id - σ.H.length), by omega, by omega⟩)
  have mlen : (putBack σ.m ids τ.m).length = σ.H.length + (τ.H.length - ids.length) := by rw [putBack_length _ _ _ (by omega), ok.len, hml]
  have fromAt : ∀ (j id : Nat), ids[j]? = some id → fromIds ids σ.H.length j = some id := fun j id h => by
    have hj : j < ids.length := (List.getElem?_eq_some_iff.1 h).1
    unfold fromIds
    rw [if_pos hj, h]
  have fromNew : ∀ j, ids.length ≤ j → fromIds ids σ.H.length j = some (σ.H.length + (j - ids.length)) := fun j h => by
    unfold fromIds
    rw [if_neg (by omega)]
  -- which callee's entry an entry is
  have back : ∀ (id b : Nat), (putBack σ.m ids τ.m)[id]? = some (some b) → (id < σ.H.length ∧ id ∉ ids ∧ σ.m[id]? = some (some b)) ∨ (∃ j : Nat, fromIds ids σ.H.length j = some id ∧ τ.m[j]? = some (some b) ∧ (putBack σ.H ids Hb)[id]? = Hb[j]?) := by
    intro id b h
    have hlt : id < σ.H.length + (τ.H.length - ids.length) := by rw [← mlen]; exact (List.getElem?_eq_some_iff.1 h).1
    rcases three id hlt with ⟨h1, h2⟩ | ⟨j, h1⟩ | ⟨j, h1, rfl⟩
    · exact .inl ⟨h1, h2, by rw [← mo id h1 h2]; exact h⟩
    · exact .inr ⟨j, fromAt j id h1, by rw [← ma j id h1]; exact h, Ha j id h1⟩
    · exact .inr ⟨j, fromNew j h1, by rw [← mn j h1]; exact h, Hn j h1⟩
  -- a block of an entry that was not handed over is as it was
  have keep : ∀ (id b : Nat), id ∉ ids → σ.m[id]? = some (some b) → τ.w.heap[b]? = σ.w.heap[b]? := fun id b h1 h2 =>
    to.block b (ok.lt id b h2) (fun j hj => by
      obtain ⟨id', h3, h4⟩ := callee_m_of hj
      have := ok.inj id id' b h2 h4
      subst this
      exact h1 (List.mem_of_getElem? h3))
  -- the callee's mapped blocks: known, or new
  have mapped : ∀ (j b : Nat), τ.m[j]? = some (some b) → (∃ id, ids[j]? = some id ∧ σ.m[id]? = some (some b)) ∨ σ.w.heap.size ≤ b := by
    intro j b h
    rcases to.same j b h with h1 | h1
    · exact .inl (callee_m_of h1)
    · exact .inr h1
  have stabτ : ∀ b o v, τ.w.cell? ⟨b, o, none⟩ = some v → τ.stab b o → (behind σ ids Hb τ).stab b o := by
    intro b o v hcell h
    have hB : τ.B = (callee σ ids Hin).B := to.B
    have hF : τ.F = (callee σ ids Hin).F := to.F
    have hfirst : σ.stab b o ∨ σ.B b := by
      rcases h.1 with h1 | h1
      · rw [hF] at h1; exact .inl h1
      · rw [hB] at h1
        rcases h1 with h1 | ⟨j, hj⟩
        · exact .inr (ok.new b h1)
        · obtain ⟨id, _, h3⟩ := callee_m_of (σ := σ) (Hin := Hin) hj
          exact .inr (ok.own id b h3)
    refine ⟨?_, fun id e hid he => ?_⟩
    · rcases hfirst with h1 | h1
      · exact h1.1
      · exact .inr h1
    · have hid' : (putBack σ.m ids τ.m)[id]? = some (some b) := hid
      have he' : (putBack σ.H ids Hb)[id]? = some e := he
      rcases back id b hid' with ⟨h1, h2, h3⟩ | ⟨j, h1, h2, h3⟩
      · rw [Ho id h1 h2] at he'
        -- an entry of the caller's alone: its block is old, so the cell was stable for the caller
        have hbs := ok.lt id b h3
        rcases h.1 with h4 | h4
        · rw [hF] at h4
          exact h4.2 id e h3 he'
        · rw [hB] at h4
          rcases h4 with h4 | ⟨j, hj⟩
          · omega
          · obtain ⟨id', h5, h6⟩ := callee_m_of (σ := σ) (Hin := Hin) hj
            have := ok.inj id id' b h3 h6
            subst this
            exact absurd (List.mem_of_getElem? h5) h2
      · rw [h3] at he'
        have hj : j < τ.H.length := by rw [← hbl]; exact (List.getElem?_eq_some_iff.1 he').1
        obtain ⟨e', h4, h5⟩ := ents_rns_at hb (List.getElem?_eq_getElem hj)
        rw [he'] at h4
        cases h4
        exact (rn_unlocked h5).2 (h.2 j _ h2 (List.getElem?_eq_getElem hj))
  have rn : Rn (fromIds ids σ.H.length) τ (behind σ ids Hb τ) := by
    refine ⟨rfl, fun b o v h1 h2 => stabτ b o v h1 h2, fun j id hj x hx => ?_, fun j id hj e he => ?_⟩
    · show (putBack σ.m ids τ.m)[id]? = some x
      unfold fromIds at hj
      split at hj
      · rw [ma j id hj]; exact hx
      · cases hj; rw [mn j (by omega)]; exact hx
    · obtain ⟨e', h4, h5⟩ := ents_rns_at hb he
      refine ⟨e', ?_, h5⟩
      show (putBack σ.H ids Hb)[id]? = some e'
      unfold fromIds at hj
      split at hj
      · rw [Ha j id hj]; exact h4
      · cases hj; rw [Hn j (by omega)]; exact h4
  have crn := callee_rn ok ho hin
  have leaf : Leaf σ (behind σ ids Hb τ) := by
    refine ⟨fun b o v h1 h2 => ?_, fun id b h1 h2 => ?_, fun id s len A c h1 => ?_, fun id b h1 h2 => ?_⟩
    · obtain ⟨h3, h4⟩ := to.leaf.cells b o v h1 (crn.stab b o v h1 h2)
      exact ⟨h3, stabτ b o v h3 h4⟩
    · have hlt : id < σ.H.length := by rw [← ok.len]; exact (List.getElem?_eq_some_iff.1 h1).1
      by_cases hi : id ∈ ids
      · obtain ⟨j, hj, rfl⟩ := List.getElem_of_mem hi
        have hj' := List.getElem?_eq_getElem hj
        have h3 : toIds ids ids[j] = some j := idxOf?_of ho hj'
        obtain ⟨h4, h5⟩ := to.leaf.var j b (crn.m _ _ h3 _ h1) (crn.var h3 h2)
        exact ⟨rn.m _ _ (fromAt j _ hj') _ h4, rn.var (fromAt j _ hj') h5⟩
      · exact ⟨(mo id hlt hi).trans h1, by
          obtain ⟨d, st, h2⟩ := h2
          exact ⟨d, st, (Ho id hlt hi).trans h2⟩⟩
    · have h1' := h1
      obtain ⟨e, ys, h2, h3, h4⟩ := h1
      have hlt : id < σ.H.length := (List.getElem?_eq_some_iff.1 h2).1
      by_cases hi : id ∈ ids
      · obtain ⟨j, hj, rfl⟩ := List.getElem_of_mem hi
        have hj' := List.getElem?_eq_getElem hj
        have h5 : toIds ids ids[j] = some j := idxOf?_of ho hj'
        exact rn.front (fromAt j _ hj') (to.leaf.front _ _ _ _ _ (crn.front h5 h1'))
      · refine ⟨e, ys, (Ho id hlt hi).trans h2, h3, fun hl => ?_⟩
        rcases h4 hl with ⟨h5, h6⟩ | ⟨b, cur, h5, h6, h7, h8⟩
        · exact .inl ⟨(mo id hlt hi).trans h5, h6⟩
        · exact .inr ⟨b, cur, (mo id hlt hi).trans h5, h6, (keep id b hi h5).trans h7, h8⟩
    · have hlt : id < σ.H.length := by rw [← ok.len]; exact (List.getElem?_eq_some_iff.1 h1).1
      by_cases hi : id ∈ ids
      · obtain ⟨j, hj, rfl⟩ := List.getElem_of_mem hi
        have hj' := List.getElem?_eq_getElem hj
        have h3 : toIds ids ids[j] = some j := idxOf?_of ho hj'
        obtain ⟨h4, h5⟩ := to.leaf.map j b (crn.m _ _ h3 _ h1) (crn.map h3 h2)
        exact ⟨rn.m _ _ (fromAt j _ hj') _ h4, rn.map (fromAt j _ hj') h5⟩
      · exact ⟨(mo id hlt hi).trans h1, by
          obtain ⟨d, st, h2⟩ := h2
          exact ⟨d, st, (Ho id hlt hi).trans h2⟩⟩
  refine ⟨⟨leaf, rfl, rfl, to.os, to.tape, to.output, to.size, fun b hb hn => to.block b hb (fun j hj => ?_), fun id b h => ?_, ?_⟩, ⟨?_, ?_, ?_, ?_, fun b h => ok.new b (Nat.le_trans to.size h), ?_⟩, rn⟩
  · obtain ⟨id, _, h3⟩ := callee_m_of (σ := σ) (Hin := Hin) hj
    exact hn id h3
  · rcases back id b h with ⟨_, _, h3⟩ | ⟨j, h1, h2, _⟩
    · exact .inl h3
    · rcases mapped j b h2 with ⟨id', h3, h4⟩ | h3
      · have := fromAt j id' h3
        rw [h1] at this
        cases this
        exact .inl h4
      · exact .inr h3
  · show σ.m.length ≤ (putBack σ.m ids τ.m).length
    rw [mlen, ok.len]
    omega
  · show (putBack σ.m ids τ.m).length = (putBack σ.H ids Hb).length
    rw [mlen, putBack_length _ _ _ (by omega), hbl]
  · intro i j b hi hj
    rcases back i b hi with ⟨h1, h2, h3⟩ | ⟨k, h1, h2, _⟩ <;> rcases back j b hj with ⟨h4, h5, h6⟩ | ⟨l, h4, h5, _⟩
    · exact ok.inj i j b h3 h6
    · have hbs := ok.lt i b h3
      rcases mapped l b h5 with ⟨id', h7, h8⟩ | h7
      · have := ok.inj i id' b h3 h8
        subst this
        exact absurd (List.mem_of_getElem? h7) h2
      · omega
    · have hbs := ok.lt j b h6
      rcases mapped k b h2 with ⟨id', h7, h8⟩ | h7
      · have := ok.inj j id' b h6 h8
        subst this
        exact absurd (List.mem_of_getElem? h7) h5
      · omega
    · have := okτ.inj k l b h2 h5
      subst this
      rw [h1] at h4
      exact Option.some.inj h4
  · intro i b hi
    rcases back i b hi with ⟨_, _, h3⟩ | ⟨k, _, h2, _⟩
    · exact Nat.lt_of_lt_of_le (ok.lt i b h3) to.size
    · exact okτ.lt k b h2
  · intro i e x he hx
    have he' : (putBack σ.H ids Hb)[i]? = some e := he
    have hx' : (putBack σ.m ids τ.m)[i]? = some x := hx
    have hlt : i < σ.H.length + (τ.H.length - ids.length) := by rw [← mlen]; exact (List.getElem?_eq_some_iff.1 hx').1
    have viaτ : ∀ j, fromIds ids σ.H.length j = some i → τ.m[j]? = some x → Hb[j]? = some e → entOk (behind σ ids Hb τ) x e := by
      intro j _ h2 h3
      have hj : j < τ.H.length := by rw [← hbl]; exact (List.getElem?_eq_some_iff.1 h3).1
      obtain ⟨e', h4, h5⟩ := ents_rns_at hb (List.getElem?_eq_getElem hj)
      rw [h3] at h4
      cases h4
      exact entOk_rn rn h5 (okτ.ent j _ x (List.getElem?_eq_getElem hj) h2)
    rcases three i hlt with ⟨h1, h2⟩ | ⟨j, h1⟩ | ⟨j, h1, rfl⟩
    · rw [Ho i h1 h2] at he'
      rw [mo i h1 h2] at hx'
      exact entOk_leaf leaf (fun b hb' => keep i b h2 (by rw [hx', hb'])) (ok.ent i e x he' hx')
    · exact viaτ j (fromAt j i h1) (by rw [← ma j i h1]; exact hx') (by rw [← Ha j i h1]; exact he')
    · exact viaτ j (fromNew j h1) (by rw [← mn j h1]; exact hx') (by rw [← Hn j h1]; exact he')
  · intro i b hi
    rcases back i b hi with ⟨_, _, h3⟩ | ⟨k, _, h2, _⟩
    · exact ok.own i b h3
    · rcases mapped k b h2 with ⟨id', _, h8⟩ | h7
      · exact ok.own id' b h8
      · exact ok.new b h7

theorem zip_args {args : List Operand} {tys : List TypeId} (hrep : RepT σ ts a) (hl : args.length = tys.length) : repVs σ ((args.zip tys).map fun q => (argD P ts q.2 q.1).arg) (args.map a.eval) := by
  induction args generalizing tys with
  | nil => simp [repVs]
  | cons x args ih =>
    cases tys with
    | nil => simp at hl
    | cons t tys =>
      simp only [List.zip_cons_cons, List.map_cons, repVs]
      exact ⟨_, _, rfl, arg_arg (arg_rep hrep t x), ih (by simpa using hl)⟩

theorem caps_rep {cap : List Dv} {cs : List Value} (h : repVs σ cap cs) : repVs σ (cap.map Dv.arg) cs := by
  induction cap generalizing cs with
  | nil => simpa using h
  | cons d cap ih =>
    simp only [repVs] at h
    obtain ⟨v, vs', rfl, h1, h2⟩ := h
    simp only [List.map_cons, repVs]
    exact ⟨v, vs', rfl, arg_arg h1, ih h2⟩

theorem call_exec {c : Call} {f : Operand} {g : FuncId} {cs : Array Value} (w : World) (ho : o.op = .call c) (hc : c.callee = .value f) (hf : a.eval f = .func (.func g) #[] cs) (hb : bodied P g = true) :
    (execOp a.eval o).run P w = .ok (.enter g (c.args.map a.eval ++ cs)) w := by
  unfold bodied at hb
  split at hb
  · rename_i fn hfn
    simp only [Bool.and_eq_true, Bool.not_eq_true'] at hb
    have h1 : ¬ fn.name = "runtime.NumGoroutine" := by simpa using hb.2
    have h2 : fn.body.isNone = false := by cases hh : fn.body <;> simp [hh] at hb ⊢
    simp only [execOp, ho, resolve, hc, hf, Deferred.ofValue, Sem.run_bind, Sem.run_pure, Result.andThen_ok, invoke, callFunc, run_program, hfn]
    simp [h1, h2]
  · cases hb

theorem call_sound (ok : Ok σ) (hrep : RepT σ ts a) {c : Call} {f : Operand} {g : FuncId} {cap args' : List Dv} {ids : List Nat} {Hin H' Hb : List Ent} {r r' : Dv} (ho : o.op = .call c) (hcal : c.callee = .value f)
    (hf : argD P ts 0 f = .fn g cap) (hbod : bodied P g = true) (hsz : c.args.size = c.argTypes.size) (honce : once ids = true) (hle : ids.length ≤ H'.length) (hargs : Dv.rns (toIds ids) (callArgs P ts c cap) = some args')
    (hin : subEnts σ.H ids ids = some Hin) (hr : r.rn (fromIds ids σ.H.length) = some r') (hb : Ent.rns (fromIds ids σ.H.length) H' = some Hb) (hcon : Con P g args' Hin r H') : OpOk P o a σ r' (putBack σ.H ids Hb) := by
  have hfv := arg_rep (P := P) hrep 0 f
  rw [hf] at hfv
  obtain ⟨cs, hfe, hcs⟩ := fn_one hfv
  have hav : repVs σ (callArgs P ts c cap) (c.args.map a.eval ++ cs).toList := by
    unfold callArgs
    rw [Array.toList_append, Array.toList_map]
    exact repVs_append (zip_args hrep (by simpa using hsz)) (caps_rep hcs)
  have hc := hcon (callee σ ids Hin) _ (callee_ok ok honce hin) rfl (repVs_rn (callee_rn ok honce hin) _ _ _ hargs hav)
  intro K Q hK
  unfold Oper.wp
  rw [call_exec σ.w ho hcal hfe hbod]
  simp only [Oper.upon]
  rw [Array.toArray_toList] at hc
  refine hc.mono ?_
  rintro e w' ⟨v, τ, rfl, rfl, hH, to, okτ, hv⟩
  subst hH
  obtain ⟨to', ok', rn⟩ := behind_to ok honce hin to okτ hle hb
  exact hK v (behind σ ids Hb τ) rfl to' ok' (repDV_rn rn hr hv)
end
end Go.Ev
