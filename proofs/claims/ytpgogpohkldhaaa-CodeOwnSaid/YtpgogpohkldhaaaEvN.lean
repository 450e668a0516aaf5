/- The evaluator, part N: why it is right: append, slice literals, new variables. -/
import Derived.Test.YtpgogpohkldhaaaEvM
import Derived.Lib.AppendStr
set_option linter.unusedVariables false
set_option linter.unusedSimpArgs false
namespace Go.Ev

section
variable {P : Program} {o : Oper} {a : Act} {σ : Sg} {ts : List Dv} {hs hs' : List Hint} {C : List Prop} {d : Dv}

theorem zOk_spec {i : TypeInfo} (h : zOk i = true) : ∃ z, i.zero = some z ∧ z.cells.size = i.size := by
  unfold zOk at h
  split at h
  · rename_i z hz
    exact ⟨z, hz, by simpa using h⟩
  · cases h

/-- what is appended, as the operation meets it -/
structure Src (P : Program) (w : World) (u : TypeId) (size : Nat) (S : Value) (m : Nat) (news : List Value) : Prop where
  ty : (∃ e', P.underlying u = some (.slice e')) ∨ P.underlying u = some .string
  len : ∀ w', (Builtin.lenOf S).run P w' = .ok m w'
  first : (Builtin.firstCells size m S).run P w = .ok news.toArray w
  firstd : (Builtin.firstCells size m S).run P w.drew = .ok news.toArray w.drew
  cells : news.length = m * size

theorem src_slice {w : World} {S : Nat → Nat → Prop} {u e' : TypeId} {s s' : Nat} {xs : List Pl} {A : Option Addr} {c : Nat} (hu : P.underlying u = some (.slice e')) (hs : s' = s ∨ xs = []) (hsz : allSz s' xs)
    (hr : xs ≠ [] → ∃ b o us, A = some ⟨b, o, none⟩ ∧ repCs w S xs us ∧ Cells w S b o us) :
    ∃ news, Src P w u s (.slice A xs.length c) xs.length news ∧ repCs w S xs news := by
  rcases xs with _ | ⟨x, xs⟩
  · refine ⟨[], ⟨.inl ⟨_, hu⟩, fun w' => rfl, ?_, ?_, by simp⟩, by simp [repCs]⟩
    · cases A <;> simp [Builtin.firstCells, loadCells, loadCellsFrom]
    · cases A <;> simp [Builtin.firstCells, loadCells, loadCellsFrom]
  · have hss : s' = s := by
      rcases hs with h | h
      · exact h
      · cases h
    subst hss
    obtain ⟨b, o, us, rfl, h1, h2⟩ := hr (by simp)
    have hl : us.length = (x :: xs).length * s' := by rw [repCs_size _ _ h1, sizes_all hsz]
    refine ⟨us, ⟨.inl ⟨_, hu⟩, fun w' => rfl, ?_, ?_, hl⟩, h1⟩
    · exact run_firstCells_some w s' _ ⟨b, o, none⟩ _ c us hl (fun j v hv => by rw [Addr.add_mk]; exact (h2 j v hv).1)
    · exact run_firstCells_some w.drew s' _ ⟨b, o, none⟩ _ c us hl (fun j v hv => by rw [Addr.add_mk]; exact (h2 j v hv).1)

theorem append_nil_nil {w : World} {t u ty e : TypeId} {i : TypeInfo} {S : Value} {news : List Value} (ht : P.underlying t = some (.slice e)) (hi : P.info? e = some i) (hS : Src P w u i.size S 0 news) :
    (Builtin.append_ #[t, u] ty #[.slice none 0 0, S]).run P w = .ok (.slice none 0 0) w := by
  obtain ⟨hty, hl, hf, hfd, hc⟩ := hS
  rcases hty with ⟨e'', hu⟩ | hu <;>
    (simp [Builtin.append_, run_underlying ht, run_underlying hu, sizeOf, typeInfo, hi, hl, hf])

theorem append_room {w : World} {t u ty e e' : TypeId} {i : TypeInfo} {S : Value} {m : Nat} {news : List Value} (ht : P.underlying t = some (.slice e)) (hi : P.info? e = some i) (hS : Src P w u i.size S m news)
    (h1 : ∀ v, v ∈ news → v.oneCell' = true) {g n cap : Nat} {cur : Array Value} (hg : w.heap[g]? = some (.cells cur e' (0, 0))) (hroom : n + m ≤ cap) (hcur : cur.size = cap * i.size) :
    (Builtin.append_ #[t, u] ty #[.slice (some ⟨g, 0, none⟩) n cap, S]).run P w =
      .ok (.slice (some ⟨g, 0, none⟩) (n + m) cap) (w.setRow g (cur.toList.take (n * i.size) ++ news ++ cur.toList.drop (n * i.size + news.length)).toArray) := by
  obtain ⟨hty, hl, hf, hfd, hc⟩ := hS
  have hfit : n * i.size + news.length ≤ cur.size := by rw [hc, hcur, ← Nat.add_mul]; exact Nat.mul_le_mul_right _ hroom
  have hst := run_storeCells_at P g (n * i.size) e' news 0 cur w hg (by simpa using hfit) h1
  simp only [Nat.add_zero] at hst
  rcases hty with ⟨e'', hu⟩ | hu <;>
    (simp [Builtin.append_, run_underlying ht, run_underlying hu, sizeOf, typeInfo, hi, hl, hroom, hf, Addr.add_lit, hst])

theorem append_grow {w : World} {t u ty e : TypeId} {i : TypeInfo} {z : Value} {S : Value} {m : Nat} {news olds : List Value} (ht : P.underlying t = some (.slice e)) (hi : P.info? e = some i) (hz : i.zero = some z)
    (hS : Src P w u i.size S m news) {A : Option Addr} {n cap : Nat} (hold : (Builtin.firstCells i.size n (.slice A n cap)).run P w.drew = .ok olds.toArray w.drew) (hroom : cap < n + m)
    (h63 : n + m ≤ maxLen) (hb : (n + m) * i.bytes ≤ bytesBound) :
    (Builtin.append_ #[t, u] ty #[.slice A n cap, S]).run P w =
      .ok (.slice (some ⟨w.heap.size, 0, none⟩) (n + m) (grownCap w (n + m) cap e)) (w.drew.alloc (.cells (olds.toArray ++ news.toArray ++ Builtin.zeroCells z.cells (grownCap w (n + m) cap e - (n + m))) e)) := by
  obtain ⟨hty, hl, hf, hfd, hc⟩ := hS
  have hn : ¬ (n + m ≤ cap) := by omega
  have h63' : ¬ (9223372036854775807 < ((n : Int) + (m : Int))) := by
    simp only [maxLen] at h63
    omega
  have hfit := growslice_fits (old := cap) hroom (by simpa [bytesBound] using hb)
  have h48' : ¬ (281474976710656 < Builtin.nextslicecap (n + m) cap * i.bytes) := by omega
  rcases hty with ⟨e'', hu⟩ | hu <;>
    (simp [Builtin.append_, run_underlying ht, run_underlying hu, sizeOf, typeInfo, zeroValue, hi, hz, hl, hn, h63', h48', Question.forced, hfd, hold, newRow, grownCap]
     congr 2
     apply Array.ext'
     simp [List.append_assoc])

theorem grown_drew_alloc (w : World) (ob : Obj) (row : Option Nat) : w.grownBy (w.drew.alloc ob) row :=
  let h := World.grownBy_alloc w.drew ob row
  ⟨h.os, h.tape, h.output, h.size, h.block⟩

theorem srcOf_sound (hrep : RepT σ ts a) {s : Nat} {u ut : TypeId} {x : Operand} {ys : List Pl} (h : srcOf P s u (argD P ts ut x) = some ys) :
    ∃ news, Src P σ.w u s (a.eval x) ys.length news ∧ repCs σ.w σ.stab ys news ∧ (ys ≠ [] → allSz s ys) := by
  have hx := arg_rep (P := P) hrep ut x
  unfold srcOf at h
  split at h
  · rename_i e nn s' xs hu hd
    split at h
    · rename_i hc
      cases h
      rw [hd] at hx
      obtain ⟨h1, A, c, hv, h2, h3, h4, h5, h6⟩ := repDV_sl hx
      rw [hv]
      have hc' : s' = s ∨ ys = [] := by
        rcases hc with hc | hc
        · exact .inl hc
        · exact .inr (by simpa using hc)
      obtain ⟨news, k1, k2⟩ := src_slice (P := P) (w := σ.w) (c := c) hu hc' h1 h6
      refine ⟨news, k1, k2, fun hne => ?_⟩
      rcases hc' with hc | hc
      · exact hc ▸ h1
      · exact absurd hc hne
    · cases h
  · rename_i e id nn s' xs hu hd
    split at h
    · rename_i hc
      cases h
      rw [hd] at hx
      obtain ⟨h1, A, c, hv, h2, h3, h4, h5, h6, _⟩ := repDV_own hx
      rw [hv]
      obtain ⟨news, k1, k2⟩ := src_slice (P := P) (w := σ.w) (c := c) hu (.inl hc) h1 h6
      exact ⟨news, k1, k2, fun _ => hc ▸ h1⟩
    · cases h
  · rename_i z hu hd
    split at h
    · rename_i hc
      cases h
      subst hc
      rw [hd] at hx
      rw [repDV_str hx]
      have hl : (z.data.toList.map fun b => Pl.int .u8 (b.toNat : Int)).length = z.size := by rw [List.length_map, Array.length_toList]; rfl
      refine ⟨z.data.toList.map fun b => Value.int .u8 (b.toNat : Int), ⟨.inr hu, fun w' => by rw [hl]; rfl, ?_, ?_, by simp⟩, ?_, fun _ => ?_⟩
      · rw [hl]; have := Go.Lib.run_firstCells_string (P := P) σ.w 1 z; exact this
      · rw [hl]; have := Go.Lib.run_firstCells_string (P := P) σ.w.drew 1 z; exact this
      · generalize z.data.toList = l
        induction l with
        | nil => simp [repCs]
        | cons b r ih => simp only [List.map_cons, repCs]; exact ⟨[.int .u8 b.toNat], _, rfl, by simp [repC], ih⟩
      · intro q hq
        obtain ⟨b, _, rfl⟩ := List.mem_map.1 hq
        rfl
    · cases h
  · cases h

def SrcOk (P : Program) (σ : Sg) (s : Nat) (u : TypeId) (S : Value) (ys : List Pl) : Prop := ∃ news, Src P σ.w u s S ys.length news ∧ repCs σ.w σ.stab ys news ∧ (ys ≠ [] → allSz s ys)

/-- nil, appended to: what comes of it -/
theorem append_nil_core (ok : Ok σ) (hrep : RepT σ ts a) {t u ty e : TypeId} {i : TypeInfo} {y : Operand} {ys : List Pl} (ht : P.underlying t = some (.slice e)) (hi : P.info? e = some i) (hz : zOk i = true) (hne : i.size ≠ 0)
    (hsrc : SrcOk P σ (P.cellsOf e) u (a.eval y) ys) (hb : ys.length * i.bytes ≤ bytesBound) (hm : ys.length ≤ maxLen) :
    (ys = [] ∧ (Builtin.append_ #[t, u] ty #[.slice none 0 0, a.eval y]).run P σ.w = .ok (.slice none 0 0) σ.w) ∨
    ∃ news rest, ys ≠ [] ∧ allSz i.size ys ∧ repCs σ.w σ.stab ys news ∧ ys.length ≤ grownCap σ.w ys.length 0 e ∧ grownCap σ.w ys.length 0 e ≤ maxLen ∧
      (news.toArray ++ rest : Array Value).size = grownCap σ.w ys.length 0 e * i.size ∧
      (Builtin.append_ #[t, u] ty #[.slice none 0 0, a.eval y]).run P σ.w = .ok (.slice (some ⟨σ.w.heap.size, 0, none⟩) ys.length (grownCap σ.w ys.length 0 e)) (σ.w.drew.alloc (.cells (news.toArray ++ rest) e)) := by
  have hce : P.cellsOf e = i.size := by simp [Program.cellsOf, hi]
  rw [hce] at hsrc
  obtain ⟨news, hS, hr, hall⟩ := hsrc
  rcases Nat.eq_zero_or_pos ys.length with h0 | h0
  · refine .inl ⟨List.eq_nil_of_length_eq_zero h0, ?_⟩
    rw [h0] at hS
    exact append_nil_nil ht hi hS
  · have hys : ys ≠ [] := by
      rintro rfl
      simp at h0
    obtain ⟨z, hzz, hzs⟩ := zOk_spec hz
    have hg := append_grow (P := P) (ty := ty) (A := none) (n := 0) (cap := 0) (olds := []) ht hi hzz hS (by simp [Builtin.firstCells]) (by omega) (by omega) (by simpa using hb)
    simp only [Nat.zero_add] at hg
    have hge := grownCap_ge σ.w ys.length 0 e
    refine .inr ⟨news, Builtin.zeroCells z.cells (grownCap σ.w ys.length 0 e - ys.length), hys, hall hys, hr, hge, grownCap_le_maxLen σ.w ys.length 0 e hm, ?_, by simpa using hg⟩
    have hl := hS.cells
    simp only [Array.size_append, List.size_toArray, size_zeroCells, hzs, hl, ← Nat.add_mul]
    congr 1
    omega

theorem new_cells {σ' : Sg} {b : Nat} {cells : List Value} {cs : Array Value} {t : TypeId} (hb : σ'.w.heap[b]? = some (.cells cs t (0, 0))) (hst : ∀ o, o < cells.length → σ'.stab b o) (hp : cs.toList.take cells.length = cells) : Cells σ'.w σ'.stab b 0 cells := by
  intro j u hu
  have hj : j < cells.length := (List.getElem?_eq_some_iff.1 hu).1
  rw [Nat.zero_add]
  refine ⟨?_, hst j hj⟩
  rw [cell_of_row σ'.w b j cs t (0, 0) hb, ← Array.getElem?_toList]
  rw [← hp, List.getElem?_take, if_pos hj] at hu
  exact hu

theorem snap_rep {σ' : Sg} {s : Nat} {xs : List Pl} {b c : Nat} {cells : List Value} {cs : Array Value} {t : TypeId} (ok : Ok σ') (hall : allSz s xs) (hr : repCs σ'.w σ'.stab xs cells) (hb : σ'.w.heap[b]? = some (.cells cs t (0, 0)))
    (hnew : σ'.B b) (hun : ∀ (id : Nat), σ'.m[id]? ≠ some (some b)) (hp : cs.toList.take cells.length = cells) (hc : xs.length ≤ c) (hm : c ≤ maxLen) : repDV σ' (.p (.sl true s xs)) (.slice (some ⟨b, 0, none⟩) xs.length c) :=
  repDV_sl_mk hall hc hm rfl (by simp) (fun _ => ⟨b, 0, cells, rfl, hr, new_cells hb (fun o _ => stab_new ok hnew hun) hp⟩)
end
end Go.Ev
