/- The evaluator, part R: why it is right: calls. -/
import Derived.Test.YtpgogpohkldhaaaEvQ
set_option linter.unusedVariables false
set_option linter.unusedSimpArgs false
namespace Go.Ev

theorem once_inj : ∀ {ids : List Nat}, once ids = true → ∀ (i j id : Nat), ids[i]? = some id → ids[j]? = some id → i = j
  | [], _, i, j, id, h, _ => by simp at h
  | x :: r, ho, i, j, id, hi, hj => by
    simp only [once, Bool.and_eq_true, Bool.not_eq_true'] at ho
    have hx : x ∉ r := by simpa using ho.1
    cases i with
    | zero =>
      cases j with
      | zero => rfl
      | succ j =>
        simp only [List.getElem?_cons_zero, Option.some.injEq] at hi
        simp only [List.getElem?_cons_succ] at hj
        subst hi
        exact absurd (List.mem_of_getElem? hj) hx
    | succ i =>
      cases j with
      | zero =>
        simp only [List.getElem?_cons_zero, Option.some.injEq] at hj
        simp only [List.getElem?_cons_succ] at hi
        subst hj
        exact absurd (List.mem_of_getElem? hi) hx
      | succ j =>
        simp only [List.getElem?_cons_succ] at hi hj
        rw [once_inj ho.2 i j id hi hj]

theorem idxOf?_some {ids : List Nat} {id j : Nat} (h : ids.idxOf? id = some j) : ids[j]? = some id := by
  induction ids generalizing j with
  | nil => simp at h
  | cons x r ih =>
    rw [List.idxOf?_cons] at h
    split at h
    · rename_i hx
      cases h
      have : x = id := by simpa using hx
      simp [this]
    · simp only [Option.map_eq_some_iff] at h
      obtain ⟨k, hk, rfl⟩ := h
      simpa using ih hk

theorem idxOf?_of {ids : List Nat} (ho : once ids = true) {id j : Nat} (h : ids[j]? = some id) : ids.idxOf? id = some j := by
  cases hi : ids.idxOf? id with
  | none =>
    rw [List.idxOf?_eq_none_iff] at hi
    exact absurd (List.mem_of_getElem? h) hi
  | some k => rw [once_inj ho k j id (idxOf?_some hi) h]

theorem putBack_length {α : Type} : ∀ (H : List α) (ids : List Nat) (Hb : List α), ids.length ≤ Hb.length → (putBack H ids Hb).length = H.length + (Hb.length - ids.length)
  | H, [], Hb, _ => by simp [putBack]
  | H, id :: r, [], h => by simp at h
  | H, id :: r, e :: Hb, h => by
    simp only [List.length_cons] at h
    rw [putBack, putBack_length _ r Hb (by omega), List.length_set]
    simp

theorem putBack_other {α : Type} : ∀ (H : List α) (ids : List Nat) (Hb : List α) (i : Nat), ids.length ≤ Hb.length → i < H.length → i ∉ ids → (putBack H ids Hb)[i]? = H[i]?
  | H, [], Hb, i, _, hi, _ => by simp only [putBack]; rw [List.getElem?_append_left hi]
  | H, id :: r, [], i, h, _, _ => by simp at h
  | H, id :: r, e :: Hb, i, h, hi, hn => by
    simp only [List.length_cons] at h
    simp only [List.mem_cons, not_or] at hn
    rw [putBack, putBack_other _ r Hb i (by omega) (by simpa using hi) hn.2, List.getElem?_set, if_neg (Ne.symm hn.1)]

theorem putBack_at {α : Type} : ∀ (H : List α) (ids : List Nat) (Hb : List α) (j id : Nat), once ids = true → ids.length ≤ Hb.length → (∀ i, i ∈ ids → i < H.length) → ids[j]? = some id → (putBack H ids Hb)[id]? = Hb[j]?
  | H, [], Hb, j, id, _, _, _, h => by simp at h
  | H, x :: r, [], j, id, _, h, _, _ => by simp at h
  | H, x :: r, e :: Hb, j, id, ho, hl, hlt, h => by
    simp only [once, Bool.and_eq_true, Bool.not_eq_true'] at ho
    have hx : x ∉ r := by simpa using ho.1
    simp only [List.length_cons] at hl
    rw [putBack]
    cases j with
    | zero =>
      simp only [List.getElem?_cons_zero, Option.some.injEq] at h
      subst h
      have hxl : x < H.length := hlt x (List.mem_cons_self ..)
      rw [putBack_other _ r Hb x (by omega) (by simpa using hxl) hx]
      simp [hxl]
    | succ j =>
      simp only [List.getElem?_cons_succ] at h ⊢
      exact putBack_at _ r Hb j id ho.2 (by omega) (fun i hi => by rw [List.length_set]; exact hlt i (List.mem_cons_of_mem _ hi)) h

theorem putBack_new {α : Type} : ∀ (H : List α) (ids : List Nat) (Hb : List α) (j : Nat), ids.length ≤ Hb.length → ids.length ≤ j → (putBack H ids Hb)[H.length + (j - ids.length)]? = Hb[j]?
  | H, [], Hb, j, _, _ => by
    simp only [putBack, List.length_nil, Nat.sub_zero]
    rw [List.getElem?_append_right (by omega)]
    simp
  | H, id :: r, [], j, h, _ => by simp at h
  | H, id :: r, e :: Hb, j, h, hj => by
    simp only [List.length_cons] at h hj
    cases j with
    | zero => omega
    | succ j =>
      rw [putBack]
      have := putBack_new (H.set id e) r Hb j (by omega) (by omega)
      rw [List.length_set] at this
      simp only [List.length_cons, List.getElem?_cons_succ]
      rw [← this]
      congr 1
      omega

theorem subEnts_length {H : List Ent} {all : List Nat} : ∀ {ids : List Nat} {Hin : List Ent}, subEnts H all ids = some Hin → Hin.length = ids.length
  | [], Hin, h => by simp only [subEnts, Option.some.injEq] at h; subst h; rfl
  | id :: r, Hin, h => by
    simp only [subEnts] at h
    split at h
    · rename_i e es _ h2
      cases h
      simp [subEnts_length h2]
    · cases h
theorem subEnts_at {H : List Ent} {all : List Nat} : ∀ {ids : List Nat} {Hin : List Ent} {j id : Nat}, subEnts H all ids = some Hin → ids[j]? = some id →
    ∃ e e', H[id]? = some e ∧ Hin[j]? = some e' ∧ e.rn (toIds all) = some e'
  | [], Hin, j, id, _, hj => by simp at hj
  | x :: r, Hin, j, id, h, hj => by
    simp only [subEnts] at h
    split at h
    · rename_i e es h1 h2
      cases h
      cases j with
      | zero =>
        simp only [List.getElem?_cons_zero, Option.some.injEq] at hj
        subst hj
        simp only [Option.bind_eq_some_iff] at h1
        obtain ⟨e0, h3, h4⟩ := h1
        exact ⟨e0, e, h3, rfl, h4⟩
      | succ j =>
        simp only [List.getElem?_cons_succ] at hj ⊢
        exact subEnts_at h2 hj
    · cases h
theorem ents_rns_length {f : Nat → Option Nat} : ∀ {H Hb : List Ent}, Ent.rns f H = some Hb → Hb.length = H.length
  | [], Hb, h => by simp only [Ent.rns, Option.some.injEq] at h; subst h; rfl
  | e :: H, Hb, h => by
    simp only [Ent.rns] at h
    split at h
    · rename_i y ys _ h2
      cases h
      simp [ents_rns_length h2]
    · cases h
theorem ents_rns_at {f : Nat → Option Nat} : ∀ {H Hb : List Ent} {j : Nat} {e : Ent}, Ent.rns f H = some Hb → H[j]? = some e → ∃ e', Hb[j]? = some e' ∧ e.rn f = some e'
  | [], Hb, j, e, _, he => by simp at he
  | x :: H, Hb, j, e, h, he => by
    simp only [Ent.rns] at h
    split at h
    · rename_i y ys h1 h2
      cases h
      cases j with
      | zero =>
        simp only [List.getElem?_cons_zero, Option.some.injEq] at he
        subst he
        exact ⟨y, rfl, h1⟩
      | succ j =>
        simp only [List.getElem?_cons_succ] at he ⊢
        exact ents_rns_at h2 he
    · cases h
theorem rn_unlocked {f : Nat → Option Nat} {e e' : Ent} {o : Nat} (h : e.rn f = some e') : e'.unlocked o ↔ e.unlocked o := by
  cases e with
  | var d st =>
    simp only [Ent.rn, Option.map_eq_some_iff] at h
    obtain ⟨d', _, rfl⟩ := h
    exact Iff.rfl
  | log s t xs => simp only [Ent.rn, Option.some.injEq] at h; subst h; exact Iff.rfl
  | map t kvs => simp only [Ent.rn, Option.some.injEq] at h; subst h; exact Iff.rfl
  | gone => simp only [Ent.rn, Option.some.injEq] at h; subst h; exact Iff.rfl

theorem entOk_rn {f : Nat → Option Nat} {σ σ' : Sg} (h : Rn f σ σ') {a : Option Nat} {e e' : Ent} (he : e.rn f = some e') (hok : entOk σ a e) : entOk σ' a e' := by
  cases e with
  | var d st =>
    simp only [Ent.rn, Option.map_eq_some_iff] at he
    obtain ⟨d', hd, rfl⟩ := he
    obtain ⟨b, cs, t, rfl, h1, h2, h3⟩ := hok
    have hs := (rn_size d d' hd).1
    exact ⟨b, cs, t, rfl, by rw [h.w]; exact h1, by rw [hs]; exact repD_rn h d d' _ hd h2, by rw [hs]; exact h3⟩
  | log s t xs =>
    simp only [Ent.rn, Option.some.injEq] at he
    subst he
    rcases hok with ⟨rfl, h1⟩ | ⟨b, cur, cap, rfl, h1, h2, h3, h4, h5, h6⟩
    · exact .inl ⟨rfl, h1⟩
    · exact .inr ⟨b, cur, cap, rfl, by rw [h.w]; exact h1, h2, h3, h4, h5, repCs_mono h.cells xs _ h6⟩
  | map t kvs => exact hok.elim
  | gone => simp only [Ent.rn, Option.some.injEq] at he; subst he; trivial

section
variable {P : Program} {o : Oper} {a : Act} {σ : Sg} {ts : List Dv}

/-- the callee's view of the state -/
def callee (σ : Sg) (ids : List Nat) (Hin : List Ent) : Sg :=
  { F := σ.stab, B := fun b => σ.w.heap.size ≤ b ∨ ∃ j : Nat, (ids.map fun id => (σ.m[id]?).getD none)[j]? = some (some b), m := ids.map fun id => (σ.m[id]?).getD none, H := Hin, w := σ.w }

theorem callee_m {ids : List Nat} {Hin : List Ent} {j id : Nat} {x : Option Nat} (h : ids[j]? = some id) (hm : σ.m[id]? = some x) : (callee σ ids Hin).m[j]? = some x := by
  show (ids.map fun id => (σ.m[id]?).getD none)[j]? = some x
  rw [List.getElem?_map, h]
  simp [hm]
theorem callee_m_of {ids : List Nat} {Hin : List Ent} {j b : Nat} (h : (callee σ ids Hin).m[j]? = some (some b)) : ∃ id, ids[j]? = some id ∧ σ.m[id]? = some (some b) := by
  have h' : (ids.map fun id => (σ.m[id]?).getD none)[j]? = some (some b) := h
  rw [List.getElem?_map] at h'
  obtain ⟨id, h1, h2⟩ := Option.map_eq_some_iff.1 h'
  refine ⟨id, h1, ?_⟩
  cases hm : σ.m[id]? with
  | none => rw [hm] at h2; cases h2
  | some x => rw [hm] at h2; simp at h2; rw [h2]

theorem callee_rn (ok : Ok σ) {ids : List Nat} {Hin : List Ent} (ho : once ids = true) (hin : subEnts σ.H ids ids = some Hin) : Rn (toIds ids) σ (callee σ ids Hin) where
  w := rfl
  stab b o v _ h := by
    refine ⟨.inl h, fun j e hj he => ?_⟩
    obtain ⟨id, h1, h2⟩ := callee_m_of hj
    obtain ⟨e0, e', h3, h4, h5⟩ := subEnts_at hin h1
    have he' : Hin[j]? = some e := he
    rw [h4] at he'
    cases he'
    exact (rn_unlocked h5).2 (h.2 id e0 h2 h3)
  m id j hj x hx := callee_m (idxOf?_some hj) hx
  H id j hj e he := by
    obtain ⟨e0, e', h3, h4, h5⟩ := subEnts_at hin (idxOf?_some hj)
    rw [he] at h3
    cases h3
    exact ⟨e', h4, h5⟩

theorem callee_ok (ok : Ok σ) {ids : List Nat} {Hin : List Ent} (ho : once ids = true) (hin : subEnts σ.H ids ids = some Hin) : Ok (callee σ ids Hin) where
  len := by
    show (ids.map _).length = Hin.length
    rw [List.length_map, subEnts_length hin]
  inj i j b hi hj := by
    obtain ⟨x, h1, h2⟩ := callee_m_of hi
    obtain ⟨y, h3, h4⟩ := callee_m_of hj
    have := ok.inj x y b h2 h4
    subst this
    exact once_inj ho i j x h1 h3
  lt i b hi := by
    obtain ⟨x, h1, h2⟩ := callee_m_of hi
    exact ok.lt x b h2
  ent i e x he hx := by
    have he' : Hin[i]? = some e := he
    have hi : i < ids.length := by rw [← subEnts_length hin]; exact (List.getElem?_eq_some_iff.1 he').1
    obtain ⟨e0, e', h3, h4, h5⟩ := subEnts_at hin (List.getElem?_eq_getElem hi)
    rw [he'] at h4
    cases h4
    have hm : ∃ y, σ.m[ids[i]]? = some y := by
      have : ids[i] < σ.m.length := by rw [ok.len]; exact (List.getElem?_eq_some_iff.1 h3).1
      exact ⟨_, List.getElem?_eq_getElem this⟩
    obtain ⟨y, hy⟩ := hm
    have := callee_m (Hin := Hin) (List.getElem?_eq_getElem hi) hy
    rw [hx] at this
    cases this
    exact entOk_rn (callee_rn ok ho hin) h5 (ok.ent _ _ _ h3 hy)
  new b hb := .inl hb
  own i b hi := .inr ⟨i, hi⟩
end
end Go.Ev
