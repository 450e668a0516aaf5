/- The evaluator, part J: why it is right: structs, arrays and slices that are made. -/
import Derived.Test.YtpgogpohkldhaaaEvI
set_option linter.unusedVariables false
set_option linter.unusedSimpArgs false
namespace Go.Ev

theorem foldl_splice (off : Nat) : ∀ (vs : List Value) (k : Nat) (cs : Array Value), off + k + vs.length ≤ cs.size →
    ((vs.zipIdx k).foldl (fun cs q => cs.setIfInBounds (off + q.2) q.1) cs).toList = cs.toList.take (off + k) ++ vs ++ cs.toList.drop (off + k + vs.length)
  | [], k, cs, _ => by simp
  | v :: vs, k, cs, h => by
    simp only [List.zipIdx_cons, List.foldl_cons, List.length_cons] at h ⊢
    rw [foldl_splice off vs (k + 1) _ (by simp; omega)]
    apply List.ext_getElem?
    intro j
    have hl : cs.toList.length = cs.size := Array.length_toList
    simp only [Array.toList_setIfInBounds, List.getElem?_append, List.length_append, List.length_take, List.length_set, hl, List.getElem?_take, List.getElem?_set, List.getElem?_drop, List.length_cons]
    by_cases h1 : j < off + k
    · have e1 : j < min (off + (k + 1)) cs.size := by omega
      have e2 : j < min (off + k) cs.size := by omega
      have e3 : ¬ (off + k = j) := by omega
      have e4 : j < off + (k + 1) := by omega
      have e5 : j < min (off + (k + 1)) cs.size + vs.length := by omega
      have e6 : j < min (off + k) cs.size + (vs.length + 1) := by omega
      simp [e1, e2, e3, e4, e5, e6, h1]
    · by_cases h2 : j = off + k
      · subst h2
        have e1 : off + k < min (off + (k + 1)) cs.size := by omega
        have e2 : ¬ (off + k < min (off + k) cs.size) := by omega
        have e3 : min (off + k) cs.size = off + k := by omega
        have e4 : off + k < min (off + (k + 1)) cs.size + vs.length := by omega
        have e5 : off + k < cs.size := by omega
        have e6 : off + k < off + (k + 1) := by omega
        simp [e1, e3, e4, e5, e6]
      · by_cases h3 : j < off + (k + 1) + vs.length
        · have e1 : ¬ (j < min (off + (k + 1)) cs.size) := by omega
          have e2 : ¬ (j < min (off + k) cs.size) := by omega
          have e3 : min (off + k) cs.size = off + k := by omega
          have e4 : min (off + (k + 1)) cs.size = off + (k + 1) := by omega
          have e5 : j < off + k + (vs.length + 1) := by omega
          have e6 : j < off + (k + 1) + vs.length := by omega
          have e7 : j - (off + k) = (j - (off + (k + 1))) + 1 := by omega
          have e8 : ¬ (j < off + (k + 1)) := by omega
          simp [e3, e4, e5, e6, h1, e7, e8]
        · have e1 : min (off + k) cs.size = off + k := by omega
          have e2 : min (off + (k + 1)) cs.size = off + (k + 1) := by omega
          have e3 : ¬ (j < off + (k + 1) + vs.length) := by omega
          have e4 : ¬ (j < off + k + (vs.length + 1)) := by omega
          have e5 : ¬ (off + k = off + (k + 1) + vs.length + (j - (off + (k + 1) + vs.length))) := by omega
          have e6 : off + (k + 1) + vs.length + (j - (off + (k + 1) + vs.length)) = off + k + (vs.length + 1) + (j - (off + k + (vs.length + 1))) := by omega
          simp only [e1, e2, e3, e4, if_false, e6]
          rw [if_neg (by omega)]

theorem fill_one (off : Nat) (vs cs : Array Value) (h : off + vs.size ≤ cs.size) :
    (vs.zipIdx.foldl (fun cs (q : Value × Nat) => cs.setIfInBounds (off + q.2) q.1) cs).toList = cs.toList.take off ++ vs.toList ++ cs.toList.drop (off + vs.size) := by
  have := foldl_splice off vs.toList 0 cs (by simpa using h)
  simp only [Nat.add_zero, Array.length_toList] at this
  rw [← this, ← Array.foldl_toList, Array.toList_zipIdx]

theorem dsizes_map : ∀ (ds : List Dv), Dv.sizes ds = (ds.map Dv.size).sum
  | [] => rfl
  | d :: ds => by simp [Dv.sizes, dsizes_map ds]
theorem psizes_map : ∀ (ds : List Pl), Pl.sizes ds = (ds.map Pl.size).sum
  | [] => rfl
  | d :: ds => by simp [Pl.sizes, psizes_map ds]

theorem repDV_cells {σ : Sg} {d : Dv} {v : Value} (hd : d.isAgg = true ∨ v.oneCell' = true) (h : repDV σ d v) : repD σ d v.cells.toList := by
  cases ha : d.isAgg with
  | true =>
    obtain ⟨cs, rfl, h1⟩ := (repDV_agg ha).1 h
    exact h1
  | false =>
    have h1 := (repDV_one ha).1 h
    have : v.cells = #[v] := by
      rcases hd with hd | hd
      · rw [ha] at hd; cases hd
      · cases v <;> first | rfl | (simp [Value.oneCell'] at hd)
    rw [this]
    exact h1

mutual
theorem solid_one {σ : Sg} : ∀ (d : Dv) (vs : List Value), d.solid = true → repD σ d vs → ∀ u, u ∈ vs → u.oneCell' = true
  | .p x, vs, _, h, u, hu => by simp only [repD] at h; exact repC_one x vs h u hu
  | .elem _, _, _, h, u, hu => by simp only [repD] at h; obtain ⟨b, o, us, rfl, _⟩ := h; cases List.mem_singleton.1 hu; rfl
  | .ref _ _ _, _, _, h, u, hu => by simp only [repD] at h; obtain ⟨b, _, _, rfl⟩ := h; cases List.mem_singleton.1 hu; rfl
  | .own _ _ _ _, _, _, h, u, hu => by simp only [repD] at h; obtain ⟨_, A, c, rfl, _⟩ := h; cases List.mem_singleton.1 hu; rfl
  | .view _ _ _ _ _ _, _, _, h, u, hu => by simp only [repD] at h; obtain ⟨b, c, a, _, _, rfl, _⟩ := h; cases List.mem_singleton.1 hu; rfl
  | .agg xs, vs, hs, h, u, hu => by simp only [repD] at h; simp only [Dv.solid] at hs; exact solids_one xs vs hs h u hu
  | .arr n s xs, vs, hs, h, u, hu => by simp only [repD] at h; simp only [Dv.solid] at hs; exact solids_one xs vs hs h.2.2 u hu
  | .fn _ _, _, _, h, u, hu => by simp only [repD] at h; obtain ⟨cs, rfl, _⟩ := h; cases List.mem_singleton.1 hu; rfl
  | .iface _ _, _, _, h, u, hu => by simp only [repD] at h; obtain ⟨cs, rfl, _⟩ := h; cases List.mem_singleton.1 hu; rfl
  | .tup _, _, hs, _, _, _ => by simp [Dv.solid] at hs
  | .mp _, _, _, h, u, hu => by simp only [repD] at h; obtain ⟨b, _, _, rfl⟩ := h; cases List.mem_singleton.1 hu; rfl
  | .junk, _, hs, _, _, _ => by simp [Dv.solid] at hs
theorem solids_one {σ : Sg} : ∀ (ds : List Dv) (vs : List Value), Dv.solids ds = true → repDs σ ds vs → ∀ u, u ∈ vs → u.oneCell' = true
  | [], _, _, h, u, hu => by simp only [repDs] at h; subst h; cases hu
  | x :: xs, vs, hs, h, u, hu => by
    simp only [Dv.solids, Bool.and_eq_true] at hs
    simp only [repDs] at h
    obtain ⟨us, us', rfl, h1, h2⟩ := h
    rcases List.mem_append.1 hu with h3 | h3
    · exact solid_one x us hs.1 h1 u h3
    · exact solids_one xs us' hs.2 h2 u h3
end

theorem solid_cells {σ : Sg} {d : Dv} {v : Value} (hs : d.solid = true) (h : repDV σ d v) : repD σ d v.cells.toList := by
  cases ha : d.isAgg with
  | true => exact repDV_cells (.inl ha) h
  | false =>
    have h1 := (repDV_one ha).1 h
    exact repDV_cells (.inr (solid_one d _ hs h1 v (by simp))) h

/-- parts laid into a made thing's cells -/
theorem fill_sound {σ : Sg} {place : Nat → Option (Nat × Nat)} {sz : List Nat} (hp : ∀ i s, sz[i]? = some s → place i = some ((sz.take i).sum, s)) :
    ∀ (parts : List (Nat × Dv × Value)) (ds ds' : List Dv) (cells : Array Value), ds.map Dv.size = sz → repDs σ ds cells.toList → (∀ q, q ∈ parts → q.2.1.solid = true ∧ repDV σ q.2.1 q.2.2) →
      setAll ds (parts.map fun q => (q.1, q.2.1)) = some ds' → ∃ cells', Instr.fill place cells (parts.map fun q => (q.1, q.2.2)) = some cells' ∧ repDs σ ds' cells'.toList ∧ ds'.map Dv.size = sz
  | [], ds, ds', cells, hsz, hr, _, h => by
    simp only [List.map_nil, setAll, Option.some.injEq] at h
    subst h
    exact ⟨cells, rfl, hr, hsz⟩
  | (i, d, v) :: rest, ds, ds', cells, hsz, hr, hq, h => by
    simp only [List.map_cons, setAll, Option.bind_eq_some_iff] at h
    obtain ⟨ds1, h1, h2⟩ := h
    unfold setAt at h1
    split at h1
    · rename_i old hold
      split at h1
      · rename_i hsame
        cases h1
        obtain ⟨a, b, c, e, ha, hb, hbl, h3, h4⟩ := repDs_at hr hold
        obtain ⟨hd1, hd2⟩ := hq (i, d, v) (List.mem_cons_self ..)
        have hcells := solid_cells hd1 hd2
        have hvl : v.cells.toList.length = d.size := repD_size _ _ hcells
        have hi : i < ds.length := (List.getElem?_eq_some_iff.1 hold).1
        have hszi : sz[i]? = some d.size := by rw [← hsz, List.getElem?_map, hold]; simp [hsame]
        have hpl := hp i _ hszi
        have hoff : (sz.take i).sum = a.length := by rw [ha, dsizes_map, ← hsz, List.map_take]
        have hcs : cells.size = a.length + (b.length + c.length) := by
          rw [← Array.length_toList, e]; simp
        have hbl' : b.length = d.size := by rw [hbl, hsame]
        have hvs : v.cells.size = d.size := by rw [← hvl, Array.length_toList]
        have hrest := fill_sound hp rest (ds.set i d) ds' (v.cells.zipIdx.foldl (fun cs (q : Value × Nat) => cs.setIfInBounds (a.length + q.2) q.1) cells) (by
            rw [← hsz, List.map_set, hsame.symm]
            apply List.ext_getElem?
            intro j
            rw [List.getElem?_set]
            split
            · rename_i hij
              subst hij
              rw [List.getElem?_map, hold]
              simp [hi]
            · rfl) (by
            rw [fill_one _ _ _ (by omega), e]
            have e1 : (a ++ (b ++ c)).take a.length = a := by simp
            have e2 : (a ++ (b ++ c)).drop (a.length + v.cells.size) = c := by
              rw [hvs, ← hbl', ← List.append_assoc, ← List.length_append]
              simp
            rw [e1, e2, List.append_assoc]
            have e3 : ds.set i d = ds.take i ++ (d :: ds.drop (i + 1)) := by
              rw [List.set_eq_take_append_cons_drop, if_pos hi]
            rw [e3]
            refine repDs_append h3 ?_
            simp only [repDs]
            exact ⟨_, _, rfl, hcells, h4⟩) (fun q hq' => hq q (List.mem_cons_of_mem _ hq')) h2
        obtain ⟨cells', k1, k2, k3⟩ := hrest
        refine ⟨cells', ?_, k2, k3⟩
        simp only [List.map_cons, Instr.fill, hpl, hoff]
        rw [if_neg (by simp; omega)]
        exact k1
      · cases h1
    · cases h1
end Go.Ev
