/- The evaluator, part Q: why it is right: stores; a variable's array handed on as a slice. -/
import Derived.Test.YtpgogpohkldhaaaEvP
set_option linter.unusedVariables false
set_option linter.unusedSimpArgs false
namespace Go.Ev

theorem sizes_set {xs : List Pl} {i : Nat} {x y : Pl} (hx : xs[i]? = some x) (hs : y.size = x.size) : Pl.sizes (xs.set i y) = Pl.sizes xs := by
  rw [psizes_map, psizes_map, List.map_set, hs]
  congr 1
  apply List.ext_getElem?
  intro j
  rw [List.getElem?_set]
  split
  · rename_i h
    subst h
    have := (List.getElem?_eq_some_iff.1 hx).1
    rw [List.getElem?_map, hx]
    simp [this]
  · rfl
theorem dsizes_set {xs : List Dv} {i : Nat} {x y : Dv} (hx : xs[i]? = some x) (hs : y.size = x.size) : Dv.sizes (xs.set i y) = Dv.sizes xs := by
  rw [dsizes_map, dsizes_map, List.map_set, hs]
  congr 1
  apply List.ext_getElem?
  intro j
  rw [List.getElem?_set]
  split
  · rename_i h
    subst h
    have := (List.getElem?_eq_some_iff.1 hx).1
    rw [List.getElem?_map, hx]
    simp [this]
  · rfl

theorem set_split {α : Type} {xs : List α} {i : Nat} {x y : α} (hx : xs[i]? = some x) : xs.set i y = xs.take i ++ (y :: xs.drop (i + 1)) := by
  rw [List.set_eq_take_append_cons_drop, if_pos (List.getElem?_eq_some_iff.1 hx).1]

theorem mem_set_of {α : Type} {Q : α → Prop} {xs : List α} {i : Nat} {y : α} (h : ∀ x, x ∈ xs → Q x) (hy : Q y) : ∀ x, x ∈ xs.set i y → Q x := by
  intro x hx
  rcases List.mem_or_eq_of_mem_set hx with h1 | h1
  · exact h x h1
  · rw [h1]; exact hy

theorem put_sound {σ : Sg} : ∀ (path : List Nat) (dd : Dv) (hs hs' : List Hint) (C : List Prop) (off : Nat) (sub : Dv) (us : List Value), getAt dd path hs = some (C, off, sub, hs') → AllP C → repD σ dd us →
    ∃ x y z, us = x ++ (y ++ z) ∧ x.length = off ∧ repD σ sub y ∧ ∀ new dd' y', putAt new dd path hs = some dd' → new.size = sub.size → repD σ new y' → repD σ dd' (x ++ (y' ++ z)) ∧ dd'.size = dd.size
  | [], dd, hs, hs', C, off, sub, us, h, hc, hr => by
    simp only [getAt, Option.some.injEq, Prod.mk.injEq] at h
    obtain ⟨rfl, rfl, rfl, rfl⟩ := h
    refine ⟨[], us, [], by simp, rfl, hr, fun new dd' y' hp hs hn => ?_⟩
    simp only [putAt, Option.some.injEq] at hp
    subst hp
    exact ⟨by simpa using hn, hs⟩
  | i :: path, dd, hs, hs', C, off, sub, us, h, hc, hr => by
    cases dd with
    | p q =>
      cases q with
      | agg xs =>
        simp only [getAt] at h
        split at h
        · rename_i x hx
          simp only [Option.map_eq_some_iff, Prod.mk.injEq] at h
          obtain ⟨⟨C1, off1, sub1, hs1⟩, h1, rfl, rfl, rfl, rfl⟩ := h
          simp only [repD, repC] at hr
          obtain ⟨p1, p2, p3, rfl, h2, h3, _, h6, h7⟩ := repCs_at hr hx
          obtain ⟨q1, q2, q3, rfl, h4, h5, h8⟩ := put_sound path (.p x) _ _ _ _ _ p2 h1 hc (by simpa [repD] using h3)
          refine ⟨p1 ++ q1, q2, q3 ++ p3, by simp, by rw [List.length_append, h2, h4], h5, fun new dd' y' hp hs hn => ?_⟩
          simp only [putAt, hx] at hp
          split at hp
          · rename_i y hy
            cases hp
            obtain ⟨k1, k2⟩ := h8 new _ y' hy hs hn
            have k3 : y.size = x.size := by simpa [Dv.size] using k2
            refine ⟨?_, by simp only [Dv.size, Pl.size]; exact sizes_set hx k3⟩
            simp only [repD, repC]
            rw [set_split hx]
            have e : p1 ++ q1 ++ (y' ++ (q3 ++ p3)) = p1 ++ ((q1 ++ (y' ++ q3)) ++ p3) := by simp
            rw [e]
            refine repCs_append h6 ?_
            simp only [repCs]
            exact ⟨_, _, rfl, by simpa [repD] using k1, h7⟩
          · cases hp
        · cases h
      | arr n s xs =>
        simp only [getAt] at h
        split at h
        · rename_i y hs1
          simp only [Option.map_eq_some_iff, Prod.mk.injEq] at h
          obtain ⟨⟨C1, off1, sub1, hs1⟩, h1, rfl, rfl, rfl, rfl⟩ := h
          obtain ⟨hx, hc⟩ := hc
          simp only [repD, repC] at hr
          obtain ⟨hl, hall, hr⟩ := hr
          obtain ⟨p1, p2, p3, rfl, h2, h3, _, h6, h7⟩ := repCs_at hr hx
          obtain ⟨q1, q2, q3, rfl, h4, h5, h8⟩ := put_sound path (.p y) _ _ _ _ _ p2 h1 hc (by simpa [repD] using h3)
          have hi : i < xs.length := (List.getElem?_eq_some_iff.1 hx).1
          refine ⟨p1 ++ q1, q2, q3 ++ p3, by simp, by rw [List.length_append, h2, h4, sizes_all (allSz_take hall i), List.length_take, Nat.min_eq_left (Nat.le_of_lt hi)], h5, fun new dd' y' hp hs hn => ?_⟩
          simp only [putAt] at hp
          split at hp
          · rename_i z hz
            cases hp
            obtain ⟨k1, k2⟩ := h8 new _ y' hz hs hn
            have k3 : z.size = y.size := by simpa [Dv.size] using k2
            have k4 : z.size = s := by rw [k3]; exact hall y (List.mem_of_getElem? hx)
            refine ⟨?_, rfl⟩
            simp only [repD, repC]
            refine ⟨by rw [List.length_set]; exact hl, mem_set_of hall k4, ?_⟩
            rw [set_split hx]
            have e : p1 ++ q1 ++ (y' ++ (q3 ++ p3)) = p1 ++ ((q1 ++ (y' ++ q3)) ++ p3) := by simp
            rw [e]
            refine repCs_append h6 ?_
            simp only [repCs]
            exact ⟨_, _, rfl, by simpa [repD] using k1, h7⟩
          · cases hp
        · cases h
      | _ => simp [getAt] at h
    | agg xs =>
      simp only [getAt] at h
      split at h
      · rename_i x hx
        simp only [Option.map_eq_some_iff, Prod.mk.injEq] at h
        obtain ⟨⟨C1, off1, sub1, hs1⟩, h1, rfl, rfl, rfl, rfl⟩ := h
        simp only [repD] at hr
        obtain ⟨p1, p2, p3, rfl, h2, h3, _, h6, h7⟩ := repDs_at hr hx
        obtain ⟨q1, q2, q3, rfl, h4, h5, h8⟩ := put_sound path x _ _ _ _ _ p2 h1 hc h3
        refine ⟨p1 ++ q1, q2, q3 ++ p3, by simp, by rw [List.length_append, h2, h4], h5, fun new dd' y' hp hs hn => ?_⟩
        simp only [putAt, hx, Option.map_eq_some_iff] at hp
        obtain ⟨y, hy, rfl⟩ := hp
        obtain ⟨k1, k2⟩ := h8 new _ y' hy hs hn
        refine ⟨?_, by simp only [Dv.size]; exact dsizes_set hx k2⟩
        simp only [repD]
        rw [set_split hx]
        have e : p1 ++ q1 ++ (y' ++ (q3 ++ p3)) = p1 ++ ((q1 ++ (y' ++ q3)) ++ p3) := by simp
        rw [e]
        refine repDs_append h6 ?_
        simp only [repDs]
        exact ⟨_, _, rfl, k1, h7⟩
      · cases h
    | arr n s xs =>
      simp only [getAt] at h
      split at h
      · rename_i x hx
        simp only [Option.map_eq_some_iff, Prod.mk.injEq] at h
        obtain ⟨⟨C1, off1, sub1, hs1⟩, h1, rfl, rfl, rfl, rfl⟩ := h
        simp only [repD] at hr
        obtain ⟨hl, hall, hr⟩ := hr
        obtain ⟨p1, p2, p3, rfl, h2, h3, _, h6, h7⟩ := repDs_at hr hx
        obtain ⟨q1, q2, q3, rfl, h4, h5, h8⟩ := put_sound path x _ _ _ _ _ p2 h1 hc h3
        have hi : i < xs.length := (List.getElem?_eq_some_iff.1 hx).1
        refine ⟨p1 ++ q1, q2, q3 ++ p3, by simp, by rw [List.length_append, h2, h4, dsizes_all (fun y hy => hall y (List.mem_of_mem_take hy)), List.length_take, Nat.min_eq_left (Nat.le_of_lt hi)], h5, fun new dd' y' hp hs hn => ?_⟩
        simp only [putAt, hx, Option.map_eq_some_iff] at hp
        obtain ⟨y, hy, rfl⟩ := hp
        obtain ⟨k1, k2⟩ := h8 new _ y' hy hs hn
        refine ⟨?_, rfl⟩
        simp only [repD]
        refine ⟨by rw [List.length_set]; exact hl, mem_set_of hall (by rw [k2]; exact hall x (List.mem_of_getElem? hx)), ?_⟩
        rw [set_split hx]
        have e : p1 ++ q1 ++ (y' ++ (q3 ++ p3)) = p1 ++ ((q1 ++ (y' ++ q3)) ++ p3) := by simp
        rw [e]
        refine repDs_append h6 ?_
        simp only [repDs]
        exact ⟨_, _, rfl, k1, h7⟩
      · cases h
    | _ => simp [getAt] at h

section
variable {P : Program} {o : Oper} {a : Act} {σ : Sg} {ts : List Dv} {hs hs' : List Hint} {C : List Prop} {d : Dv}

theorem opOk_skip {σ' : Sg} (hr : (execOp a.eval o).run P σ.w = .ok .skip σ'.w) (to : To σ σ') (ok : Ok σ') : OpOk P o a σ .junk σ'.H := by
  intro K Q h
  unfold Oper.wp
  rw [hr]
  exact h undef σ' rfl to ok repDV_junk

theorem storeD_rep {path : List Nat} {dd v new : Dv} {u : Value} (h : storeD path dd v = some new) (hr : repDV σ v u) : repDV σ new u := by
  unfold storeD at h
  split at h
  · simp only [Option.map_eq_some_iff] at h
    obtain ⟨x, h1, rfl⟩ := h
    exact plain_rep h1 hr
  · split at h
    · simp only [Option.map_eq_some_iff] at h
      obtain ⟨x, h1, rfl⟩ := h
      exact plain_rep h1 hr
    · cases h; exact hr

/-- cells of a row of which a part is laid anew -/
theorem row_part {x y z y' : List Value} {cs : Array Value} {n : Nat} (h : cs.toList.take n = x ++ (y ++ z)) (hl : y'.length = y.length) (hn : n ≤ cs.size) :
    (cs.toList.take x.length ++ y' ++ cs.toList.drop (x.length + y'.length)).take n = x ++ (y' ++ z) ∧ (cs.toList.take x.length ++ y' ++ cs.toList.drop (x.length + y'.length)).length = cs.size := by
  have hnl : n = x.length + (y.length + z.length) := by
    have := congrArg List.length h
    simp only [List.length_take, Array.length_toList, List.length_append] at this
    omega
  have e : cs.toList = x ++ (y ++ z) ++ cs.toList.drop n := by rw [← h, List.take_append_drop]
  have e1 : cs.toList.take x.length = x := by rw [e]; simp
  have e2 : cs.toList.drop (x.length + y'.length) = z ++ cs.toList.drop n := by
    have hc : cs.toList = (x ++ y) ++ (z ++ cs.toList.drop n) := by
      have : x ++ y ++ (z ++ cs.toList.drop n) = x ++ (y ++ z) ++ cs.toList.drop n := by simp
      rw [this]; exact e
    have hle : x.length + y'.length = (x ++ y).length := by rw [List.length_append, hl]
    rw [hle]
    have := congrArg (List.drop (x ++ y).length) hc
    rw [List.drop_left] at this
    exact this
  rw [e1, e2]
  constructor
  · have : x ++ y' ++ (z ++ cs.toList.drop n) = (x ++ (y' ++ z)) ++ cs.toList.drop n := by simp
    rw [this, hnl]
    have hle : x.length + (y.length + z.length) = (x ++ (y' ++ z)).length := by simp [hl]
    rw [hle]
    exact List.take_left
  · simp only [List.length_append, List.length_drop, Array.length_toList]
    omega

theorem e_store (ok : Ok σ) (hrep : RepT σ ts a) {t : TypeId} {x y : Operand} {id off : Nat} {path : List Nat} {dd sub new dd' : Dv} {C1 : List Prop} {off' : Nat} (ho : o.op = .store t x y) (hx : argD P ts 0 x = .ref id off path)
    (hH : σ.H[id]? = some (.var dd true)) (hg : getAt dd path hs = some (C1, off', sub, hs')) (hc : AllP C1) (he : off' = off) (hn : storeD path dd (argD P ts t y) = some new) (hp : putAt new dd path hs = some dd')
    (hsol : new.solid = true) (hsz : new.size = sub.size) (ht : P.cellsOf t = new.size) (hi : (P.info? t).isSome = true) : OpOk P o a σ .junk (σ.H.set id (.var dd' true)) := by
  subst he
  have hxv := arg_rep (P := P) hrep 0 x
  have hyv := storeD_rep hn (arg_rep (P := P) hrep t y)
  rw [hx] at hxv
  obtain ⟨b, hm, hv, hxv⟩ := ref_one hxv
  obtain ⟨b', cs, t', h1, h2, h3, h4⟩ := ok.ent id _ _ hH hm
  cases h1
  obtain ⟨p1, p2, p3, h5, h6, h7, h8⟩ := put_sound path dd hs hs' C1 off' sub _ hg hc h3
  have hcells := solid_cells hsol hyv
  obtain ⟨h9, h10⟩ := h8 new dd' _ hp hsz hcells
  have hl1 : (a.eval y).cells.toList.length = new.size := repD_size _ _ hcells
  have hl2 : p2.length = sub.size := repD_size _ _ h7
  have hll : (a.eval y).cells.toList.length = p2.length := by rw [hl1, hl2, hsz]
  obtain ⟨k1, k2⟩ := row_part h5 hll h4
  rw [h6] at k1 k2
  have hnl : off' + (a.eval y).cells.toList.length ≤ cs.size := by
    have := congrArg List.length h5
    simp only [List.length_take, Array.length_toList, List.length_append] at this
    omega
  have hone : ∀ u, u ∈ (a.eval y).cells.toList → u.oneCell' = true := solid_one new _ hsol hcells
  have hst := run_storeCells_at P b off' t' (a.eval y).cells.toList 0 cs σ.w h2 (by simpa using hnl) hone
  simp only [Nat.add_zero] at hst
  let ncs : Array Value := (cs.toList.take off' ++ (a.eval y).cells.toList ++ cs.toList.drop (off' + (a.eval y).cells.toList.length)).toArray
  let σ' : Sg := { σ with m := σ.m.set id (some b), H := σ.H.set id (.var dd' true), w := σ.w.setRow b ncs }
  have hblk : σ'.w.heap[b]? = some (.cells ncs t' (0, 0)) := setRow_heap σ.w b cs _ t' _ h2
  have hoth : ∀ j, b ≠ j → σ'.w.heap[j]? = σ.w.heap[j]? := fun j hj => setRow_other σ.w b j _ (Ne.symm hj)
  obtain ⟨to, ok'⟩ := turn_to (σ' := σ') (mi := some b) (mi' := some b) ok hH hm rfl rfl rfl rfl rfl rfl rfl (by simp [σ'])
    (fun j hj hne => hoth j (fun hh => hne (by rw [hh]))) (fun b' o v _ hu _ => by cases hu) (fun o _ hu => by cases hu) (.inl rfl) (fun _ => ⟨rfl, dd', true, rfl⟩) (fun ⟨d, st, h⟩ => by cases h)
    (fun s e xs h => by cases h) (fun leaf => ⟨b, ncs, t', rfl, hblk, by rw [h10]; show repD σ' dd' (ncs.toList.take dd.size); rw [show ncs.toList.take dd.size = p1 ++ ((a.eval y).cells.toList ++ p3) from k1]; exact repD_leaf leaf dd' _ h9, by
      rw [h10]
      show dd.size ≤ ncs.size
      have : ncs.size = cs.size := k2
      omega⟩)
  refine opOk_skip (σ' := σ') ?_ to ok'
  cases hi' : P.info? t with
  | none => simp [hi'] at hi
  | some i =>
    have hs : (a.eval y).cells.size = i.size := by
      rw [← Array.length_toList, hl1, ← ht]
      simp [Program.cellsOf, hi']
    simp only [execOp, ho, hxv, Instr.storeAt, Instr.sureAddr, storeVar, sizeOf, typeInfo, Sem.run_bind, run_program, Result.andThen_ok, hi', Sem.run_pure, hs, ne_eq, not_true, if_false, hst]
    rfl

theorem e_frz (ok : Ok σ) (hrep : RepT σ ts a) {t e : TypeId} {x : Operand} {lo hi : Option Operand} {id off n s : Nat} {path : List Nat} {dd : Dv} {st : Bool} {xs : List Pl} {C1 : List Prop} {off' : Nat} {l r : Option Int}
    (ho : o.op = .slice t x lo hi none) (hu : P.underlying t = some (.array n e)) (hx : argD P ts t x = .ref id off path) (hl : lowOf P ts lo = some l) (hr : lowOf P ts hi = some r)
    (hH : σ.H[id]? = some (.var dd st)) (hg : getAt dd path hs = some (C1, off', .p (.arr n s xs), hs')) (hc : AllP C1) (he : off' = off) (hce : P.cellsOf e = s) (hi' : (P.info? e).isSome = true) (hm' : n ≤ maxLen)
    (hcut : AllP (cutConds n l r)) : OpOk P o a σ (.p (.sl true s (cutList xs l r))) (σ.H.set id (.var dd false)) := by
  have hxv := arg_rep (P := P) hrep t x
  rw [hx] at hxv
  obtain ⟨b, hm, hv, hxv⟩ := ref_one hxv
  obtain ⟨cs, t', p1, p2, p3, h2, h4, h5, h6, h7, h3, h8⟩ := at_place ok hm hH hg hc he
  simp only [repD, repC] at h7
  obtain ⟨h9, h10, h11⟩ := h7
  subst h9
  let σ' : Sg := { σ with m := σ.m.set id (some b), H := σ.H.set id (.var dd false) }
  have hmset : σ'.m[id]? = some (some b) := getElem?_set_eq' hm
  have hHset : σ'.H[id]? = some (.var dd false) := getElem?_set_eq' hH
  obtain ⟨to, ok'⟩ := turn_to (σ' := σ') (mi := some b) (mi' := some b) ok hH hm rfl rfl rfl rfl rfl rfl rfl (Nat.le_refl _)
    (fun _ _ _ => rfl) (fun _ _ _ _ _ h => h) (fun o _ hu => rfl) (.inl rfl) (fun _ => ⟨rfl, dd, false, rfl⟩) (fun ⟨d, st, h⟩ => by cases h)
    (fun s e xs h => by cases h) (fun leaf => ⟨b, cs, t', rfl, h2, repD_leaf leaf dd _ h3, h4⟩)
  have hcells : Cells σ'.w σ'.stab b off p2 := fun j u hu => by
    refine ⟨h8 j u hu, .inr (ok.own id b hm), fun j' e' g1 g2 => ?_⟩
    have : j' = id := ok'.inj j' id _ g1 hmset
    subst this
    rw [hHset] at g2
    cases g2
    rfl
  obtain ⟨p, q, hb, k1, k2, rfl, rfl⟩ := bounds_run (P := P) (w := σ.w) false xs.length xs.length _ _ _ _ (lowOf_rep hrep hl) (lowOf_rep hrep hr) hcut (Nat.le_refl _)
  obtain ⟨j1, j2, j3, j4, j5, j6, j7⟩ := cut_rep (A := some ⟨b, off, none⟩) (w := σ'.w) (S := σ'.stab) h10 (Nat.le_refl _) hm' (fun hA => by cases hA) (fun _ => ⟨b, off, p2, rfl, repCs_mono to.leaf.cells _ _ h11, hcells⟩) k1 k2
  have hrun : (Instr.sliceAt t (a.eval x) (lo.map a.eval) (hi.map a.eval) none).run P σ.w = .ok (.slice (some (if xs.length = (l.getD 0).toNat then (⟨b, off, none⟩ : Addr) else (⟨b, off, none⟩ : Addr).add ((l.getD 0).toNat * s))) ((r.getD (xs.length : Int)).toNat - (l.getD 0).toNat) (xs.length - (l.getD 0).toNat)) σ.w := by
    rw [hxv]
    simp [Instr.sliceAt, Instr.sureAddr, run_underlying hu, hb, sizeOf_run hi', hce]
  have hrun2 : (execOp a.eval o).run P σ.w = .ok (.value (.slice (some (if xs.length = (l.getD 0).toNat then (⟨b, off, none⟩ : Addr) else (⟨b, off, none⟩ : Addr).add ((l.getD 0).toNat * s))) ((r.getD (xs.length : Int)).toNat - (l.getD 0).toNat) (xs.length - (l.getD 0).toNat))) σ'.w := by
    show _ = Result.ok _ σ.w
    simp only [execOp, ho, Option.map_none, Sem.run_bind, hrun, Result.andThen_ok, Sem.run_pure]
  refine opOk_step hrun2 to ok' ?_
  rw [cutList_eq xs l r hcut]
  have := repDV_sl_mk (σ := σ') j1 (by rw [j2]; exact j3) j4 j5 (fun hn => by cases hn) j7
  rw [j2] at this
  simpa [apply_ite] using this
end
end Go.Ev
