/- The evaluator, part O: why it is right: append, slice literals, variables, at the operation. -/
import Derived.Test.YtpgogpohkldhaaaEvN
set_option linter.unusedVariables false
set_option linter.unusedSimpArgs false
namespace Go.Ev

section
variable {P : Program} {o : Oper} {a : Act} {σ : Sg} {ts : List Dv} {hs hs' : List Hint} {C : List Prop} {d : Dv}

theorem nilsl {s : Nat} {v : Value} (h : repDV σ (.p (.sl false s [])) v) : v = .slice none 0 0 := by
  obtain ⟨_, A, c, rfl, _, _, hA, hc, _⟩ := repDV_sl h
  have : A = none := by simpa using hA
  subst this
  rw [hc rfl]
  rfl

theorem append_exec {x y : Operand} {t u : TypeId} {c : Call} (ho : o.op = .call c) (hc : c.callee = .builtin .append) (hargs : c.args.toList = [x, y]) (htys : c.argTypes.toList = [t, u]) {v : Value} {w' : World}
    (h : (Builtin.append_ #[t, u] o.type #[a.eval x, a.eval y]).run P σ.w = .ok v w') : (execOp a.eval o).run P σ.w = .ok (.value v) w' := by
  have h1 : c.args = #[x, y] := by rw [← Array.toArray_toList (xs := c.args), hargs]
  have h2 : c.argTypes = #[t, u] := by rw [← Array.toArray_toList (xs := c.argTypes), htys]
  simp [execOp, ho, resolve, hc, h1, h2, invoke, builtin, h]

theorem len_exec {x : Operand} {t : TypeId} {c : Call} (ho : o.op = .call c) (hc : c.callee = .builtin .len) (hargs : c.args.toList = [x]) (htys : c.argTypes.toList = [t]) {v : Value}
    (h : (Builtin.len_ #[t] o.type #[a.eval x]).run P σ.w = .ok v σ.w) : (execOp a.eval o).run P σ.w = .ok (.value v) σ.w := by
  have h1 : c.args = #[x] := by rw [← Array.toArray_toList (xs := c.args), hargs]
  have h2 : c.argTypes = #[t] := by rw [← Array.toArray_toList (xs := c.argTypes), htys]
  simp [execOp, ho, resolve, hc, h1, h2, invoke, builtin, h]

theorem unmapped_new (ok : Ok σ) (id : Nat) : σ.m[id]? ≠ some (some σ.w.heap.size) := fun h => by
  have := ok.lt id _ h
  omega

/-- nil, appended to, as what is read -/
theorem n_append_snap (ok : Ok σ) (hrep : RepT σ ts a) {c : Call} {x y : Operand} {t u e : TypeId} {i : TypeInfo} {ys : List Pl} (ho : o.op = .call c) (hcal : c.callee = .builtin .append) (hargs : c.args.toList = [x, y])
    (htys : c.argTypes.toList = [t, u]) (ht : P.underlying t = some (.slice e)) {s : Nat} (hx : argD P ts t x = .p (.sl false s [])) (hi : P.info? e = some i) (hz : zOk i = true) (hne : i.size ≠ 0)
    (hsrc : srcOf P (P.cellsOf e) u (argD P ts u y) = some ys) (hb : ys.length * i.bytes ≤ bytesBound) (hm : ys.length ≤ maxLen) : OpOk P o a σ (.p (.sl (!ys.isEmpty) (P.cellsOf e) ys)) σ.H := by
  have hxv := arg_rep (P := P) hrep t x
  rw [hx] at hxv
  have hxn := nilsl hxv
  have hce : P.cellsOf e = i.size := by simp [Program.cellsOf, hi]
  rcases append_nil_core (P := P) (ty := o.type) ok hrep ht hi hz hne (srcOf_sound (P := P) hrep hsrc) hb hm with ⟨rfl, hrun⟩ | ⟨news, rest, hys, hall, hr, hge, hcm, hcs, hrun⟩
  · refine opOk_value ok (append_exec ho hcal hargs htys (by rw [hxn]; exact hrun)) ?_
    exact repDV_sl_mk (fun _ hx => by cases hx) (Nat.le_refl _) (by simp [maxLen]) rfl (fun _ => rfl) (fun h => absurd rfl h)
  · obtain ⟨to, ok'⟩ := grow_to ok (grown_drew_alloc σ.w (.cells (news.toArray ++ rest) e) none)
    refine opOk_step (σ' := { σ with w := σ.w.drew.alloc (.cells (news.toArray ++ rest) e) }) (append_exec ho hcal hargs htys (by rw [hxn]; exact hrun)) to ok' ?_
    have hemp : (!ys.isEmpty) = true := by cases ys <;> first | exact absurd rfl hys | rfl
    rw [hemp, hce]
    have hlen : news.length = ys.length * i.size := by rw [repCs_size _ _ hr, sizes_all hall]
    refine snap_rep ok' hall (repCs_mono to.leaf.cells _ _ hr) (b := σ.w.heap.size) (cells := news) (heap_alloc_new σ.w.drew _) (ok.new _ (Nat.le_refl _)) (unmapped_new ok) (by simp) hge hcm

/-- nil, appended to, as a buffer of one's own -/
theorem e_append_nil (ok : Ok σ) (hrep : RepT σ ts a) {c : Call} {x y : Operand} {t u e : TypeId} {i : TypeInfo} {ys : List Pl} (ho : o.op = .call c) (hcal : c.callee = .builtin .append) (hargs : c.args.toList = [x, y])
    (htys : c.argTypes.toList = [t, u]) (ht : P.underlying t = some (.slice e)) {s : Nat} (hx : argD P ts t x = .p (.sl false s [])) (hi : P.info? e = some i) (hz : zOk i = true) (hne : i.size ≠ 0)
    (hsrc : srcOf P (P.cellsOf e) u (argD P ts u y) = some ys) (hb : ys.length * i.bytes ≤ bytesBound) (hm : ys.length ≤ maxLen) : OpOk P o a σ (.own σ.H.length (!ys.isEmpty) i.size ys) (σ.H ++ [.log i.size e ys]) := by
  have hxv := arg_rep (P := P) hrep t x
  rw [hx] at hxv
  have hxn := nilsl hxv
  rcases append_nil_core (P := P) (ty := o.type) ok hrep ht hi hz hne (srcOf_sound (P := P) hrep hsrc) hb hm with ⟨rfl, hrun⟩ | ⟨news, rest, hys, hall, hr, hge, hcm, hcs, hrun⟩
  · obtain ⟨to, ok'⟩ := push_to (σ' := { σ with m := σ.m ++ [none], H := σ.H ++ [.log i.size e []] }) ok rfl rfl rfl rfl (World.grownBy.refl σ.w none) (.inl rfl) (fun _ => .inl ⟨rfl, rfl⟩)
    refine opOk_step (σ' := { σ with m := σ.m ++ [none], H := σ.H ++ [.log i.size e []] }) (append_exec ho hcal hargs htys (by rw [hxn]; exact hrun)) to ok' ?_
    rw [repDV_one rfl]
    simp only [repD]
    refine ⟨fun _ hx => (by cases hx), none, 0, rfl, Nat.le_refl _, by simp [maxLen], rfl, fun _ => rfl, fun h => absurd rfl h, e, [], by simp, Nat.le_refl _, fun _ => .inl ⟨?_, rfl, rfl⟩⟩
    rw [List.getElem?_append_right (by rw [ok.len]; exact Nat.le_refl _), ok.len]
    simp
  · let σ' : Sg := { σ with m := σ.m ++ [some σ.w.heap.size], H := σ.H ++ [.log i.size e ys], w := σ.w.drew.alloc (.cells (news.toArray ++ rest) e) }
    have hlen : news.length = ys.length * i.size := by rw [repCs_size _ _ hr, sizes_all hall]
    have hblk : σ'.w.heap[σ.w.heap.size]? = some (.cells (news.toArray ++ rest) e (0, 0)) := heap_alloc_new σ.w.drew _
    have hmlast : σ'.m[σ.H.length]? = some (some σ.w.heap.size) := by
      show (σ.m ++ [some σ.w.heap.size])[σ.H.length]? = _
      rw [List.getElem?_append_right (by rw [ok.len]; exact Nat.le_refl _), ok.len]
      simp
    obtain ⟨to, ok'⟩ := push_to (σ' := σ') ok rfl rfl rfl rfl (grown_drew_alloc σ.w (.cells (news.toArray ++ rest) e) none) (.inr ⟨_, rfl, Nat.le_refl _, by simp [σ']⟩)
      (fun leaf => .inr ⟨σ.w.heap.size, _, grownCap σ.w ys.length 0 e, rfl, hblk, hcs, hge, hcm, hall, by
        rw [← hlen]
        simpa using repCs_mono leaf.cells _ _ hr⟩)
    refine opOk_step (σ' := σ') (append_exec ho hcal hargs htys (by rw [hxn]; exact hrun)) to ok' ?_
    have hemp : (!ys.isEmpty) = true := by cases ys <;> first | exact absurd rfl hys | rfl
    rw [hemp, repDV_one rfl]
    simp only [repD]
    refine ⟨hall, _, _, rfl, hge, hcm, rfl, fun h => (by cases h), fun _ => ⟨σ.w.heap.size, 0, news, rfl, repCs_mono to.leaf.cells _ _ hr, new_cells hblk (fun o ho => ⟨.inr (ok.new _ (Nat.le_refl _)), fun id e' h1 h2 => ?_⟩) (by simp)⟩,
      e, ys, by simp [σ'], Nat.le_refl _, fun _ => .inr ⟨_, _, hmlast, rfl, hblk, hcs⟩⟩
    have : id = σ.H.length := ok'.inj id σ.H.length _ h1 hmlast
    subst this
    have h3 : σ'.H[σ.H.length]? = some (.log i.size e ys) := by simp [σ']
    rw [h3] at h2
    cases h2
    show o < ys.length * i.size
    omega

/-- a buffer of one's own, appended to -/
theorem e_append_own (ok : Ok σ) (hrep : RepT σ ts a) {c : Call} {x y : Operand} {t u e : TypeId} {i : TypeInfo} {xs ys : List Pl} {id s : Nat} {nn : Bool} (ho : o.op = .call c) (hcal : c.callee = .builtin .append)
    (hargs : c.args.toList = [x, y]) (htys : c.argTypes.toList = [t, u]) (ht : P.underlying t = some (.slice e)) (hx : argD P ts t x = .own id nn s xs) (hi : P.info? e = some i) (hz : zOk i = true) (hs : i.size = s) (hne : s ≠ 0)
    (hsrc : SrcOk P σ s u (a.eval y) ys) (hH : σ.H[id]? = some (.log s e xs)) (hb : (xs.length + ys.length) * i.bytes ≤ bytesBound) (hm : xs.length + ys.length ≤ maxLen) :
    OpOk P o a σ (.own id (nn || !ys.isEmpty) s (xs ++ ys)) (σ.H.set id (.log s e (xs ++ ys))) := by
  subst hs
  have hxv := arg_rep (P := P) hrep t x
  rw [hx] at hxv
  obtain ⟨h1, A, cp, hv, h2, h3, h4, h5, h6, e0, ys0, h7, h8, h9⟩ := repDV_own hxv
  rw [hH] at h7
  cases h7
  have hsrc2 := hsrc
  obtain ⟨news, hS, hr, hall⟩ := hsrc2
  obtain ⟨z, hzz, hzs⟩ := zOk_spec hz
  have hH' := hH
  have hidlt : id < σ.m.length := by rw [ok.len]; exact (List.getElem?_eq_some_iff.1 hH).1
  have hmi : σ.m[id]? = some σ.m[id] := List.getElem?_eq_getElem hidlt
  have hent := ok.ent id _ _ hH hmi
  have hall' : allSz i.size (xs ++ ys) := by
    by_cases hy : ys = []
    · subst hy; simpa using h1
    · exact allSz_append h1 (hall hy)
  have hnl : news.length = ys.length * i.size := hS.cells
  have hone : ∀ v, v ∈ news → v.oneCell' = true := repCs_one _ _ hr
  have hlen : (xs ++ ys).length = xs.length + ys.length := List.length_append
  rcases h9 rfl with ⟨k1, rfl, rfl⟩ | ⟨b, cur, k1, rfl, k3, k4⟩
  · -- nil so far
    have hxs : xs = [] := by
      rw [hmi] at k1
      rcases hent with ⟨_, h⟩ | ⟨b, cur, cap, h, _⟩
      · exact h
      · rw [h] at k1; cases k1
    subst hxs
    have hmn : σ.m[id] = none := by rw [hmi] at k1; exact Option.some.inj k1
    have hnn : nn = false := by rw [← h4]; rfl
    subst hnn
    rcases append_nil_core (P := P) (ty := o.type) (u := u) (y := y) (ys := ys) ok hrep ht hi hz hne (by simpa [Program.cellsOf, hi] using hsrc) (by simpa using hb) (by simpa using hm) with ⟨rfl, hrun⟩ | ⟨news', rest, hys, hall2, hr2, hge, hcm, hcs, hrun⟩
    · obtain ⟨to, ok'⟩ := turn_to (σ' := { σ with m := σ.m.set id none, H := σ.H.set id (.log i.size e ([] ++ [])) }) (mi := none) (mi' := none) ok hH (by rw [hmi, hmn]) rfl rfl rfl rfl rfl rfl rfl (Nat.le_refl _)
        (fun _ _ _ => rfl) (fun b o v h => by cases h) (fun o _ h => h) (.inl rfl) (fun ⟨d, st, h⟩ => by cases h) (fun ⟨d, st, h⟩ => by cases h) (fun s e' xs h => ⟨[], by cases h; rfl, by cases h; exact Nat.le_refl _, fun _ => ⟨rfl, fun _ _ => rfl⟩⟩) (fun _ => .inl ⟨rfl, rfl⟩)
      refine opOk_step (σ' := { σ with m := σ.m.set id none, H := σ.H.set id (.log i.size e ([] ++ [])) }) (append_exec ho hcal hargs htys (by rw [hv]; exact hrun)) to ok' ?_
      rw [repDV_one rfl]
      simp only [repD]
      exact ⟨fun _ hx => (by cases hx), none, 0, rfl, Nat.le_refl _, by simp [maxLen], rfl, fun _ => rfl, fun h => absurd rfl h, e, [], getElem?_set_eq' hH, Nat.le_refl _, fun _ => .inl ⟨getElem?_set_eq' hmi, rfl, rfl⟩⟩
    · let σ' : Sg := { σ with m := σ.m.set id (some σ.w.heap.size), H := σ.H.set id (.log i.size e ([] ++ ys)), w := σ.w.drew.alloc (.cells (news'.toArray ++ rest) e) }
      have hl2 : news'.length = ys.length * i.size := by rw [repCs_size _ _ hr2, sizes_all hall2]
      have hblk : σ'.w.heap[σ.w.heap.size]? = some (.cells (news'.toArray ++ rest) e (0, 0)) := heap_alloc_new σ.w.drew _
      have hg := grown_drew_alloc σ.w (.cells (news'.toArray ++ rest) e) none
      have hblk' : ∀ b, b < σ.w.heap.size → σ'.w.heap[b]? = σ.w.heap[b]? := fun b hb => hg.block b hb (by simp)
      have hmset : σ'.m[id]? = some (some σ.w.heap.size) := getElem?_set_eq' hmi
      have hHset : σ'.H[id]? = some (.log i.size e ([] ++ ys)) := getElem?_set_eq' hH
      obtain ⟨to, ok'⟩ := turn_to (σ' := σ') (mi := none) (mi' := some σ.w.heap.size) ok hH (by rw [hmi, hmn]) rfl rfl rfl rfl rfl rfl rfl hg.size
        (fun b hb _ => hblk' b hb) (fun b o v h => by cases h) (fun o h _ => by cases h) (.inr ⟨_, rfl, Nat.le_refl _, by simp [σ']⟩) (fun ⟨d, st, h⟩ => by cases h) (fun ⟨d, st, h⟩ => by cases h)
        (fun s' e' xs' h => ⟨ys, by cases h; rfl, by cases h; exact Nat.zero_le _, fun hh => by
          cases h
          exact absurd (List.eq_nil_of_length_eq_zero (by simpa using hh)) hys⟩)
        (fun leaf => .inr ⟨σ.w.heap.size, _, grownCap σ.w ys.length 0 e, rfl, hblk, hcs, hge, hcm, hall2, by
          show repCs σ'.w σ'.stab ([] ++ ys) _
          rw [List.nil_append, ← hl2]
          simpa using repCs_mono leaf.cells _ _ hr2⟩)
      refine opOk_step (σ' := σ') (append_exec ho hcal hargs htys (by rw [hv]; exact hrun)) to ok' ?_
      have hemp : (!ys.isEmpty) = true := by cases ys <;> first | exact absurd rfl hys | rfl
      rw [hemp, repDV_one rfl]
      simp only [repD, Bool.false_or]
      refine ⟨hall2, _, _, rfl, hge, hcm, rfl, fun h => (by cases h), fun _ => ⟨σ.w.heap.size, 0, news', rfl, repCs_mono to.leaf.cells _ _ hr2, new_cells hblk (fun o ho => ⟨.inr (ok.new _ (Nat.le_refl _)), fun j e' g1 g2 => ?_⟩) (by simp)⟩,
        e, _, hHset, Nat.le_refl _, fun _ => .inr ⟨_, _, hmset, rfl, hblk, hcs⟩⟩
      have : j = id := ok'.inj j id _ g1 hmset
      subst this
      rw [hHset] at g2
      cases g2
      show o < ([] ++ ys).length * i.size
      rw [List.nil_append]
      omega
  · have hmb : σ.m[id] = some b := by rw [hmi] at k1; exact Option.some.inj k1
    rcases hent with ⟨h, _⟩ | ⟨b', cur', cap, h, g3, g4, g5, g6, g7, g8⟩
    · rw [h] at hmb; cases hmb
    · rw [hmb] at h
      cases h
      rw [k3] at g3
      cases g3
      have hcap : cp = cap := by
        have : cp * i.size = cap * i.size := by rw [← k4, ← g4]
        exact Nat.eq_of_mul_eq_mul_right (Nat.pos_of_ne_zero hne) this
      subst hcap
      have hus : (cur.toList.take (xs.length * i.size)).length = xs.length * i.size := by rw [repCs_size _ _ g8, sizes_all h1]
      have hnn : nn = true := by rw [← h4]; rfl
      subst hnn
      by_cases hroom : xs.length + ys.length ≤ cp
      · -- there is room
        have hrun := append_room (P := P) (ty := o.type) ht hi hS hone k3 hroom g4
        let ncur : Array Value := (cur.toList.take (xs.length * i.size) ++ news ++ cur.toList.drop (xs.length * i.size + news.length)).toArray
        let σ' : Sg := { σ with m := σ.m.set id (some b), H := σ.H.set id (.log i.size e (xs ++ ys)), w := σ.w.setRow b ncur }
        have hfit : xs.length * i.size + news.length ≤ cur.size := by rw [hnl, g4, ← Nat.add_mul]; exact Nat.mul_le_mul_right _ hroom
        have hncs : ncur.size = cp * i.size := by
          simp only [ncur, List.size_toArray, List.length_append, List.length_drop, Array.length_toList, hus]
          omega
        have hblk : σ'.w.heap[b]? = some (.cells ncur e (0, 0)) := setRow_heap σ.w b cur _ e _ k3
        have hoth : ∀ j, b ≠ j → σ'.w.heap[j]? = σ.w.heap[j]? := fun j hj => setRow_other σ.w b j _ (Ne.symm hj)
        have hmset : σ'.m[id]? = some (some b) := getElem?_set_eq' hmi
        have hHset : σ'.H[id]? = some (.log i.size e (xs ++ ys)) := getElem?_set_eq' hH
        have hpre : ∀ o, o < xs.length * i.size → ncur[o]? = cur[o]? := by
          intro o ho
          simp only [ncur, List.getElem?_toArray, List.append_assoc]
          rw [List.getElem?_append_left (by rw [hus]; exact ho), List.getElem?_take, if_pos ho]
          simp
        have hcl : (cur.toList.take (xs.length * i.size) ++ news).length = (xs ++ ys).length * i.size := by
          rw [hlen, List.length_append, hus, hnl, Nat.add_mul]
        have htk : ncur.toList.take ((xs ++ ys).length * i.size) = cur.toList.take (xs.length * i.size) ++ news := by
          rw [← hcl]
          exact List.take_left
        have hbl : ys.length = 0 → ncur = cur := by
          intro h0
          have : news = [] := List.eq_nil_of_length_eq_zero (by rw [hnl, h0]; simp)
          apply Array.ext'
          simp [ncur, this]
        obtain ⟨to, ok'⟩ := turn_to (σ' := σ') (mi := some b) (mi' := some b) ok hH (by rw [hmi, hmb]) rfl rfl rfl rfl rfl rfl rfl (by simp [σ'])
          (fun j hj hne => hoth j (fun hh => hne (by rw [hh]))) (fun b' o v hb' hu hcell => by
            cases hb'
            rw [cell_of_row σ.w b o cur e (0, 0) k3] at hcell
            show (σ.w.setRow b ncur).cell? ⟨b, o, none⟩ = some v
            rw [cell_of_row _ b o ncur e (0, 0) hblk, hpre o hu]
            exact hcell)
          (fun o _ hu => by
            have hu' : o < xs.length * i.size := hu
            show o < (xs ++ ys).length * i.size
            rw [hlen, Nat.add_mul]
            omega) (.inl rfl) (fun ⟨d, st, h⟩ => by cases h) (fun ⟨d, st, h⟩ => by cases h)
          (fun s' e' xs' h => ⟨xs ++ ys, by cases h; rfl, by cases h; simp, fun hh => by
            cases h
            refine ⟨rfl, fun j _ => ?_⟩
            have h0 : ys.length = 0 := by rw [hlen] at hh; omega
            by_cases hj : b = j
            · subst hj
              rw [hblk, k3, hbl h0]
            · exact hoth j hj⟩)
          (fun leaf => .inr ⟨b, ncur, cp, rfl, hblk, hncs, by rw [hlen]; exact hroom, h3, hall', by
            rw [htk]
            exact repCs_append (repCs_mono leaf.cells _ _ g8) (repCs_mono leaf.cells _ _ hr)⟩)
        refine opOk_step (σ' := σ') (append_exec ho hcal hargs htys (by rw [hv]; exact hrun)) to ok' ?_
        rw [repDV_one rfl]
        simp only [repD, Bool.true_or]
        refine ⟨hall', some ⟨b, 0, none⟩, cp, by rw [hlen], by rw [hlen]; exact hroom, h3, rfl, fun h => (by cases h), fun _ => ⟨b, 0, cur.toList.take (xs.length * i.size) ++ news, rfl,
          repCs_append (repCs_mono to.leaf.cells _ _ g8) (repCs_mono to.leaf.cells _ _ hr), new_cells hblk (fun o ho => ?_) ?_⟩, e, _, hHset, Nat.le_refl _, fun _ => .inr ⟨b, ncur, hmset, rfl, hblk, hncs⟩⟩
        · refine ⟨.inr (ok.own id b k1), fun j e' g1 g2 => ?_⟩
          have : j = id := ok'.inj j id _ g1 hmset
          subst this
          rw [hHset] at g2
          cases g2
          show o < (xs ++ ys).length * i.size
          rw [hcl] at ho
          exact ho
        · rw [hcl]
          exact htk
      · -- a new row
        have hgr : cp < xs.length + ys.length := by omega
        have hold : (Builtin.firstCells i.size xs.length (.slice (some ⟨b, 0, none⟩) xs.length cp)).run P σ.w.drew = .ok (cur.toList.take (xs.length * i.size)).toArray σ.w.drew :=
          run_firstCells_some σ.w.drew i.size _ ⟨b, 0, none⟩ _ cp _ hus (fun j v hj => by
            rw [Addr.add_mk, Nat.zero_add]
            show σ.w.cell? ⟨b, j, none⟩ = some v
            have hj2 : j < xs.length * i.size := by
              have := (List.getElem?_eq_some_iff.1 hj).1
              rw [hus] at this
              exact this
            rw [cell_of_row σ.w b j cur e (0, 0) k3]
            rw [List.getElem?_take, if_pos hj2] at hj
            simpa using hj)
        have hrun := append_grow (P := P) (ty := o.type) ht hi hzz hS hold hgr hm hb
        have hge := grownCap_ge σ.w (xs.length + ys.length) cp e
        have hcm := grownCap_le_maxLen σ.w (xs.length + ys.length) cp e hm
        let q : Nat := grownCap σ.w (xs.length + ys.length) cp e
        let rest : Array Value := Builtin.zeroCells z.cells (q - (xs.length + ys.length))
        let ncur : Array Value := (cur.toList.take (xs.length * i.size)).toArray ++ news.toArray ++ rest
        let σ' : Sg := { σ with m := σ.m.set id (some σ.w.heap.size), H := σ.H.set id (.log i.size e (xs ++ ys)), w := σ.w.drew.alloc (.cells ncur e) }
        have hcl : (cur.toList.take (xs.length * i.size) ++ news).length = (xs ++ ys).length * i.size := by
          rw [hlen, List.length_append, hus, hnl, Nat.add_mul]
        have hncs : ncur.size = q * i.size := by
          simp only [ncur, rest, Array.size_append, List.size_toArray, size_zeroCells, hzs, hus, hnl, ← Nat.add_mul]
          congr 1
          omega
        have htk : ncur.toList.take ((xs ++ ys).length * i.size) = cur.toList.take (xs.length * i.size) ++ news := by
          rw [← hcl]
          have : ncur.toList = (cur.toList.take (xs.length * i.size) ++ news) ++ rest.toList := by simp [ncur]
          rw [this]
          exact List.take_left
        have hblk : σ'.w.heap[σ.w.heap.size]? = some (.cells ncur e (0, 0)) := heap_alloc_new σ.w.drew _
        have hg := grown_drew_alloc σ.w (.cells ncur e) none
        have hblk' : ∀ b, b < σ.w.heap.size → σ'.w.heap[b]? = σ.w.heap[b]? := fun b hb => hg.block b hb (by simp)
        have hmset : σ'.m[id]? = some (some σ.w.heap.size) := getElem?_set_eq' hmi
        have hHset : σ'.H[id]? = some (.log i.size e (xs ++ ys)) := getElem?_set_eq' hH
        obtain ⟨to, ok'⟩ := turn_to (σ' := σ') (mi := some b) (mi' := some σ.w.heap.size) ok hH (by rw [hmi, hmb]) rfl rfl rfl rfl rfl rfl rfl hg.size
          (fun b hb _ => hblk' b hb) (fun b' o v hb' _ hcell => by
            rw [World.cell?_of_block (w := σ.w) (hblk' b' (cell_block_lt hcell))]
            exact hcell)
          (fun o h _ => by
            have := ok.lt id b k1
            cases h
            omega) (.inr ⟨_, rfl, Nat.le_refl _, by simp [σ']⟩) (fun ⟨d, st, h⟩ => by cases h) (fun ⟨d, st, h⟩ => by cases h)
          (fun s' e' xs' h => ⟨xs ++ ys, by cases h; rfl, by cases h; simp, fun hh => by
            cases h
            rw [hlen] at hh
            omega⟩)
          (fun leaf => .inr ⟨σ.w.heap.size, ncur, q, rfl, hblk, hncs, by rw [hlen]; exact hge, hcm, hall', by
            rw [htk]
            exact repCs_append (repCs_mono leaf.cells _ _ g8) (repCs_mono leaf.cells _ _ hr)⟩)
        refine opOk_step (σ' := σ') (append_exec ho hcal hargs htys (by rw [hv]; exact hrun)) to ok' ?_
        rw [repDV_one rfl]
        simp only [repD, Bool.true_or]
        refine ⟨hall', some ⟨σ.w.heap.size, 0, none⟩, q, by rw [hlen], by rw [hlen]; exact hge, hcm, rfl, fun h => (by cases h), fun _ => ⟨σ.w.heap.size, 0, cur.toList.take (xs.length * i.size) ++ news, rfl,
          repCs_append (repCs_mono to.leaf.cells _ _ g8) (repCs_mono to.leaf.cells _ _ hr), new_cells hblk (fun o ho => ?_) ?_⟩, e, _, hHset, Nat.le_refl _, fun _ => .inr ⟨_, ncur, hmset, rfl, hblk, hncs⟩⟩
        · refine ⟨.inr (ok.new _ (Nat.le_refl _)), fun j e' g1 g2 => ?_⟩
          have : j = id := ok'.inj j id _ g1 hmset
          subst this
          rw [hHset] at g2
          cases g2
          show o < (xs ++ ys).length * i.size
          rw [hcl] at ho
          exact ho
        · rw [hcl]
          exact htk
end
end Go.Ev
