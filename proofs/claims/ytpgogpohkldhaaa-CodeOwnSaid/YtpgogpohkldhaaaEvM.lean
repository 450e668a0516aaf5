/- The evaluator, part M: why it is right: steps that turn an entry, or lay a new one. -/
import Derived.Test.YtpgogpohkldhaaaEvL
set_option linter.unusedVariables false
set_option linter.unusedSimpArgs false
namespace Go.Ev

theorem getElem?_set_ne' {α : Type} {l : List α} {i j : Nat} {x : α} (h : i ≠ j) : (l.set i x)[j]? = l[j]? := by
  rw [List.getElem?_set, if_neg h]
theorem getElem?_set_eq' {α : Type} {l : List α} {i : Nat} {x y : α} (h : l[i]? = some y) : (l.set i x)[i]? = some x := by
  rw [List.getElem?_set, if_pos rfl, if_pos (List.getElem?_eq_some_iff.1 h).1]

/-- an entry turned: the others, and their blocks, are as they were; its own block's stable cells too -/
theorem turn_to {σ σ' : Sg} (ok : Ok σ) {id : Nat} {mi mi' : Option Nat} {en en' : Ent} (hH : σ.H[id]? = some en) (hm : σ.m[id]? = some mi)
    (eF : σ'.F = σ.F) (en_ : σ'.B = σ.B) (eH : σ'.H = σ.H.set id en') (em : σ'.m = σ.m.set id mi')
    (hos : σ'.w.os = σ.w.os) (htape : σ'.w.tape = σ.w.tape) (hout : σ'.w.output = σ.w.output) (hsize : σ.w.heap.size ≤ σ'.w.heap.size)
    (hblk : ∀ b, b < σ.w.heap.size → mi ≠ some b → σ'.w.heap[b]? = σ.w.heap[b]?)
    (hown : ∀ b o v, mi = some b → en.unlocked o → σ.w.cell? ⟨b, o, none⟩ = some v → σ'.w.cell? ⟨b, o, none⟩ = some v)
    (hunl : ∀ o, mi' = mi → en.unlocked o → en'.unlocked o)
    (hmi : mi' = mi ∨ ∃ b', mi' = some b' ∧ σ.w.heap.size ≤ b' ∧ b' < σ'.w.heap.size)
    (hvar : (∃ d st, en = .var d st) → mi' = mi ∧ ∃ d st, en' = .var d st)
    (hmap : (∃ t kvs, en = .map t kvs) → mi' = mi ∧ ∃ t kvs, en' = .map t kvs)
    (hlog : ∀ s e xs, en = .log s e xs → ∃ xs', en' = .log s e xs' ∧ xs.length ≤ xs'.length ∧ (xs'.length = xs.length → mi' = mi ∧ ∀ b, b < σ.w.heap.size → σ'.w.heap[b]? = σ.w.heap[b]?))
    (hent : Leaf σ σ' → entOk σ' mi' en') : To σ σ' ∧ Ok σ' := by
  have hlt : ∀ b, mi = some b → b < σ.w.heap.size := fun b h => ok.lt id b (by rw [hm, h])
  have mset : ∀ j, j ≠ id → σ'.m[j]? = σ.m[j]? := fun j hj => by rw [em, getElem?_set_ne' (Ne.symm hj)]
  have mself : σ'.m[id]? = some mi' := by rw [em]; exact getElem?_set_eq' hm
  have Hset : ∀ j, j ≠ id → σ'.H[j]? = σ.H[j]? := fun j hj => by rw [eH, getElem?_set_ne' (Ne.symm hj)]
  have Hself : σ'.H[id]? = some en' := by rw [eH]; exact getElem?_set_eq' hH
  have hob : ∀ j b, j ≠ id → σ.m[j]? = some (some b) → σ'.w.heap[b]? = σ.w.heap[b]? := fun j b hj h =>
    hblk b (ok.lt j b h) (fun he => hj (ok.inj j id b h (by rw [hm, he])))
  have leaf : Leaf σ σ' := by
    refine ⟨fun b o v h1 h2 => ⟨?_, ?_, ?_⟩, fun j b h1 h2 => ?_, fun j s len A c h1 => ?_, fun j b h1 h2 => ?_⟩
    · by_cases hb : mi = some b
      · exact hown b o v hb (h2.2 id en (by rw [hm, hb]) hH) h1
      · rw [World.cell?_of_block (w := σ.w) (hblk b (cell_block_lt h1) hb)]
        exact h1
    · rcases h2.1 with h3 | h3
      · exact .inl (by rw [eF]; exact h3)
      · exact .inr (by rw [en_]; exact h3)
    · intro j e hj he
      by_cases hji : j = id
      · subst hji
        rw [mself] at hj
        rw [Hself] at he
        cases he
        have hj' : mi' = some b := by simpa using hj
        rcases hmi with h3 | ⟨b', h3, h4, _⟩
        · have hmb : mi = some b := by rw [← h3, hj']
          exact hunl o h3 (h2.2 j en (by rw [hm, hmb]) hH)
        · have : b' = b := by rw [h3] at hj'; exact Option.some.inj hj'
          have := cell_block_lt h1
          omega
      · rw [mset j hji] at hj
        rw [Hset j hji] at he
        exact h2.2 j e hj he
    · by_cases hji : j = id
      · subst hji
        obtain ⟨d, st, h2⟩ := h2
        rw [hH] at h2
        obtain ⟨h3, d', st', h4⟩ := hvar ⟨d, st, Option.some.inj h2⟩
        rw [hm] at h1
        exact ⟨by rw [mself, h3]; exact h1, d', st', by rw [Hself, h4]⟩
      · exact ⟨by rw [mset j hji]; exact h1, by rw [Hset j hji]; exact h2⟩
    · obtain ⟨e, ys, h2, h3, h4⟩ := h1
      by_cases hji : j = id
      · subst hji
        rw [hH] at h2
        obtain ⟨xs', k1, k2, k3⟩ := hlog s e ys (Option.some.inj h2)
        refine ⟨e, xs', by rw [Hself, k1], by omega, fun hl => ?_⟩
        obtain ⟨k4, k5⟩ := k3 (by omega)
        rcases h4 (by omega) with ⟨h5, h6⟩ | ⟨b, cur, h5, h6, h7, h8⟩
        · exact .inl ⟨by rw [mself, k4, ← hm]; exact h5, h6⟩
        · exact .inr ⟨b, cur, by rw [mself, k4, ← hm]; exact h5, h6, (k5 b (ok.lt j b h5)).trans h7, h8⟩
      · refine ⟨e, ys, by rw [Hset j hji]; exact h2, h3, fun hl => ?_⟩
        rcases h4 hl with ⟨h5, h6⟩ | ⟨b, cur, h5, h6, h7, h8⟩
        · exact .inl ⟨by rw [mset j hji]; exact h5, h6⟩
        · exact .inr ⟨b, cur, by rw [mset j hji]; exact h5, h6, (hob j b hji h5).trans h7, h8⟩
    · by_cases hji : j = id
      · subst hji
        obtain ⟨d, st, h2⟩ := h2
        rw [hH] at h2
        obtain ⟨h3, d', st', h4⟩ := hmap ⟨d, st, Option.some.inj h2⟩
        rw [hm] at h1
        exact ⟨by rw [mself, h3]; exact h1, d', st', by rw [Hself, h4]⟩
      · exact ⟨by rw [mset j hji]; exact h1, by rw [Hset j hji]; exact h2⟩
  have hsame : ∀ j b, σ'.m[j]? = some (some b) → (σ.m[j]? = some (some b) ∧ (j = id → mi' = mi)) ∨ (j = id ∧ σ.w.heap.size ≤ b ∧ b < σ'.w.heap.size) := by
    intro j b hj
    by_cases hji : j = id
    · subst hji
      rw [mself] at hj
      have hj' : mi' = some b := by simpa using hj
      rcases hmi with h3 | ⟨b', h3, h4, h5⟩
      · exact .inl ⟨by rw [hm, ← h3, hj'], fun _ => h3⟩
      · have : b' = b := by rw [h3] at hj'; exact Option.some.inj hj'
        subst this
        exact .inr ⟨rfl, h4, h5⟩
    · rw [mset j hji] at hj
      exact .inl ⟨hj, fun h => absurd h hji⟩
  refine ⟨⟨leaf, eF, en_, hos, htape, hout, hsize, fun b hb hn => hblk b hb (fun he => hn id (by rw [hm, he])), fun j b hj => ?_, by rw [em, List.length_set]; exact Nat.le_refl _⟩, ?_, ?_, ?_, ?_, ?_, ?_⟩
  · rcases hsame j b hj with ⟨h, _⟩ | ⟨_, h, _⟩
    · exact .inl h
    · exact .inr h
  · rw [em, eH, List.length_set, List.length_set]; exact ok.len
  · intro i j b hi hj
    rcases hsame i b hi with ⟨h1, _⟩ | ⟨h1, h2, _⟩ <;> rcases hsame j b hj with ⟨h3, _⟩ | ⟨h3, h4, _⟩
    · exact ok.inj i j b h1 h3
    · have := ok.lt i b h1; omega
    · have := ok.lt j b h3; omega
    · rw [h1, h3]
  · intro i b hi
    rcases hsame i b hi with ⟨h1, _⟩ | ⟨_, _, h2⟩
    · exact Nat.lt_of_lt_of_le (ok.lt i b h1) hsize
    · exact h2
  · intro i e a he ha
    by_cases hji : i = id
    · subst hji
      rw [mself] at ha
      rw [Hself] at he
      cases he
      cases ha
      exact hent leaf
    · rw [mset i hji] at ha
      rw [Hset i hji] at he
      exact entOk_leaf leaf (fun b hb => hob i b hji (by rw [ha, hb])) (ok.ent i e a he ha)
  · intro b hb; rw [en_]; exact ok.new b (Nat.le_trans hsize hb)
  · intro i b hi; rw [en_]; rcases hsame i b hi with ⟨h1, _⟩ | ⟨_, h1, _⟩
    · exact ok.own i b h1
    · exact ok.new b h1

/-- a new entry -/
theorem push_to {σ σ' : Sg} (ok : Ok σ) {mi : Option Nat} {en : Ent} (eF : σ'.F = σ.F) (en_ : σ'.B = σ.B) (eH : σ'.H = σ.H ++ [en]) (em : σ'.m = σ.m ++ [mi])
    (hg : σ.w.grownBy σ'.w none) (hmi : mi = none ∨ ∃ b, mi = some b ∧ σ.w.heap.size ≤ b ∧ b < σ'.w.heap.size) (hent : Leaf σ σ' → entOk σ' mi en) : To σ σ' ∧ Ok σ' := by
  have hblk : ∀ b, b < σ.w.heap.size → σ'.w.heap[b]? = σ.w.heap[b]? := fun b hb => hg.block b hb (by simp)
  have hml : ∀ j a, σ.m[j]? = some a → σ'.m[j]? = some a := fun j a h => by
    rw [em, List.getElem?_append_left (List.getElem?_eq_some_iff.1 h).1]; exact h
  have hHl : ∀ j e, σ.H[j]? = some e → σ'.H[j]? = some e := fun j a h => by
    rw [eH, List.getElem?_append_left (List.getElem?_eq_some_iff.1 h).1]; exact h
  have hmr : ∀ j a, σ'.m[j]? = some a → σ.m[j]? = some a ∨ (j = σ.m.length ∧ a = mi) := fun j a h => by
    rw [em] at h
    rcases Nat.lt_or_ge j σ.m.length with h1 | h1
    · rw [List.getElem?_append_left h1] at h; exact .inl h
    · rw [List.getElem?_append_right h1] at h
      have hj : j - σ.m.length < 1 := (List.getElem?_eq_some_iff.1 h).1
      have : j = σ.m.length := by omega
      subst this
      simp at h
      exact .inr ⟨rfl, h.symm⟩
  have hHr : ∀ j e, σ'.H[j]? = some e → σ.H[j]? = some e ∨ (j = σ.H.length ∧ e = en) := fun j a h => by
    rw [eH] at h
    rcases Nat.lt_or_ge j σ.H.length with h1 | h1
    · rw [List.getElem?_append_left h1] at h; exact .inl h
    · rw [List.getElem?_append_right h1] at h
      have hj : j - σ.H.length < 1 := (List.getElem?_eq_some_iff.1 h).1
      have : j = σ.H.length := by omega
      subst this
      simp at h
      exact .inr ⟨rfl, h.symm⟩
  have leaf : Leaf σ σ' := by
    refine ⟨fun b o v h1 h2 => ⟨?_, ?_, ?_⟩, fun j b h1 h2 => ?_, fun j s len A c h1 => ?_, fun j b h1 h2 => ?_⟩
    · rw [World.cell?_of_block (w := σ.w) (hblk b (cell_block_lt h1))]
      exact h1
    · rcases h2.1 with h3 | h3
      · exact .inl (by rw [eF]; exact h3)
      · exact .inr (by rw [en_]; exact h3)
    · intro j e hj he
      rcases hmr j _ hj with h3 | ⟨h3, h4⟩
      · rcases hHr j _ he with h5 | ⟨h5, _⟩
        · exact h2.2 j e h3 h5
        · have := (List.getElem?_eq_some_iff.1 h3).1
          have := ok.len
          omega
      · rcases hmi with h5 | ⟨b', h5, h6, _⟩
        · rw [h5] at h4; cases h4
        · rw [h5] at h4
          have := cell_block_lt h1
          cases h4
          omega
    · obtain ⟨d, st, h2⟩ := h2
      exact ⟨hml _ _ h1, d, st, hHl _ _ h2⟩
    · obtain ⟨e, ys, h2, h3, h4⟩ := h1
      refine ⟨e, ys, hHl _ _ h2, h3, fun hl => ?_⟩
      rcases h4 hl with ⟨h5, h6⟩ | ⟨b, cur, h5, h6, h7, h8⟩
      · exact .inl ⟨hml _ _ h5, h6⟩
      · exact .inr ⟨b, cur, hml _ _ h5, h6, (hblk b (ok.lt j b h5)).trans h7, h8⟩
    · obtain ⟨d, st, h2⟩ := h2
      exact ⟨hml _ _ h1, d, st, hHl _ _ h2⟩
  refine ⟨⟨leaf, eF, en_, hg.os, hg.tape, hg.output, hg.size, fun b hb _ => hblk b hb, fun j b hj => ?_, by rw [em, List.length_append]; omega⟩, ?_, ?_, ?_, ?_, ?_, ?_⟩
  · rcases hmr j _ hj with h | ⟨_, h⟩
    · exact .inl h
    · rcases hmi with h5 | ⟨b', h5, h6, _⟩
      · rw [h5] at h; cases h
      · rw [h5] at h; cases h; exact .inr h6
  · rw [em, eH, List.length_append, List.length_append, ok.len]; rfl
  · intro i j b hi hj
    rcases hmr i _ hi with h1 | ⟨h1, h1'⟩ <;> rcases hmr j _ hj with h2 | ⟨h2, h2'⟩
    · exact ok.inj i j b h1 h2
    · have := ok.lt i b h1
      rcases hmi with h5 | ⟨b', h5, h6, _⟩
      · rw [h5] at h2'; cases h2'
      · rw [h5] at h2'; cases h2'; omega
    · have := ok.lt j b h2
      rcases hmi with h5 | ⟨b', h5, h6, _⟩
      · rw [h5] at h1'; cases h1'
      · rw [h5] at h1'; cases h1'; omega
    · rw [h1, h2]
  · intro i b hi
    rcases hmr i _ hi with h1 | ⟨_, h1⟩
    · exact Nat.lt_of_lt_of_le (ok.lt i b h1) hg.size
    · rcases hmi with h5 | ⟨b', h5, _, h6⟩
      · rw [h5] at h1; cases h1
      · rw [h5] at h1; cases h1; exact h6
  · intro i e a he ha
    rcases hHr i _ he with h1 | ⟨h1, h1'⟩ <;> rcases hmr i _ ha with h2 | ⟨h2, h2'⟩
    · exact entOk_leaf leaf (fun b hb => hblk b (ok.lt i b (by rw [h2, hb]))) (ok.ent i e a h1 h2)
    · have := (List.getElem?_eq_some_iff.1 h1).1
      have := ok.len
      omega
    · have := (List.getElem?_eq_some_iff.1 h2).1
      have := ok.len
      omega
    · rw [h1', h2']; exact hent leaf
  · intro b hb; rw [en_]; exact ok.new b (Nat.le_trans hg.size hb)
  · intro i b hi; rw [en_]; rcases hmr i _ hi with h1 | ⟨_, h1⟩
    · exact ok.own i b h1
    · rcases hmi with h5 | ⟨b', h5, h6, _⟩
      · rw [h5] at h1; cases h1
      · rw [h5] at h1; cases h1; exact ok.new b h6
end Go.Ev
