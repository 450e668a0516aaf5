/- The evaluator, part Y: rounds of a loop behind which entries are forgotten. -/
import Derived.Test.YtpgogpohkldhaaaEvX
set_option linter.unusedVariables false
set_option linter.unusedSimpArgs false
namespace Go.Ev

theorem repT_rns {f : Nat → Option Nat} {σ σ' : Sg} (h : Rn f σ σ') {ts ts' : List Dv} {a : Act} (e : Dv.rns f ts = some ts') (hr : RepT σ ts a) : RepT σ' ts' a := by
  refine ⟨by rw [rns_length e]; exact hr.size, ?_, hr.defers⟩
  have key : ∀ (xs ys : List Dv), Dv.rns f xs = some ys → ∀ (i : Nat) (d : Dv), ys[i]? = some d → ∃ d0, xs[i]? = some d0 ∧ d0.rn f = some d := by
    intro xs
    induction xs with
    | nil =>
      intro ys h1 i d h2
      simp only [Dv.rns, Option.some.injEq] at h1
      subst h1
      simp at h2
    | cons x r ih =>
      intro ys h1 i d h2
      simp only [Dv.rns] at h1
      split at h1
      · rename_i y ys' h3 h4
        cases h1
        cases i with
        | zero => simp only [List.getElem?_cons_zero, Option.some.injEq] at h2 ⊢; subst h2; exact ⟨x, rfl, h3⟩
        | succ j => simp only [List.getElem?_cons_succ] at h2 ⊢; exact ih _ h4 j d h2
      · cases h1
  intro i d hd
  obtain ⟨d0, h1, h2⟩ := key ts ts' e i d hd
  exact repDV_rn h h2 (hr.at_ i d0 h1)

/-- a round that goes on, behind which some entries are forgotten -/
theorem drop_step {P : Program} {body : Code} {ts ts1 ts2 ts' : List Dv} {H H1 H2 H' : List Ent} {ex : Ex} (mask keep : List Nat) (h1 : Runs P body ts H .normal ts1 H1)
    (ho : once (List.range H.length ++ keep) = true) (hin : subEnts H1 (List.range H.length ++ keep) (List.range H.length ++ keep) = some H2)
    (e : Dv.rns (toIds (List.range H.length ++ keep)) (junkAll ts1 mask) = some ts2) (h2 : LRuns P body ts2 H2 ex ts' H') : LRuns P body ts H ex ts' H' := by
  intro σ a ok hH hrep b k cs
  subst hH
  obtain ⟨e', a1, w1, ⟨rfl, σ1, rfl, e1, to1, ok1, hrep1⟩, harr⟩ := h1 σ a ok rfl hrep b (.inLoop body :: k) cs
  subst e1
  have hrep2 := repT_rns (part_rn hin) e (junkAll_rep (mask := mask) hrep1)
  obtain ⟨e3, a2, w2, ⟨rfl, σ2, rfl, e2, to2, ok2, hrep3⟩, harr2⟩ := h2 (part' σ1 (List.range σ.H.length ++ keep) H2) a1 (part_ok ok1 ho hin) rfl hrep2 b k cs
  exact ⟨ex.to, a2, σ2.w, ⟨rfl, σ2, rfl, e2, (part_to ok to1 ho hin).trans to2, ok2, hrep3⟩, .of_steps (Steps.trans harr (.one step_inLoop)) harr2⟩

/-- a round that ends the loop, behind which some entries are forgotten -/
theorem drop_runs {P : Program} {body : Code} {ts ts1 ts2 : List Dv} {H H1 H2 : List Ent} {ex : Ex} (mask keep : List Nat) (h1 : Runs P body ts H ex ts1 H1)
    (ho : once (List.range H.length ++ keep) = true) (hin : subEnts H1 (List.range H.length ++ keep) (List.range H.length ++ keep) = some H2)
    (e : Dv.rns (toIds (List.range H.length ++ keep)) (junkAll ts1 mask) = some ts2) : Runs P body ts H ex ts2 H2 := by
  intro σ a ok hH hrep
  subst hH
  refine wp_mono (h1 σ a ok rfl hrep) ?_
  rintro e' a' w' ⟨rfl, σ1, rfl, e1, to1, ok1, hrep1⟩
  subst e1
  exact ⟨rfl, part' σ1 (List.range σ.H.length ++ keep) H2, rfl, rfl, part_to ok to1 ho hin, part_ok ok1 ho hin, repT_rns (part_rn hin) e (junkAll_rep (mask := mask) hrep1)⟩

theorem round_drop {P : Program} {body : Code} {ts ts1 ts2 ts3 ts' : List Dv} {H H1 H2 H3 H' : List Ent} {ex : Ex} (hs : List Hint) (mask keep : List Nat) (C : List Prop) (h : ev P body ts H hs = some (C, .normal, ts1, H1, [])) (hc : AllP C)
    (ho : once (List.range H.length ++ keep) = true) (hin : subEnts H1 (List.range H.length ++ keep) (List.range H.length ++ keep) = some H2)
    (hr : Dv.rns (toIds (List.range H.length ++ keep)) (junkAll ts1 mask) = some ts2) (e : ts2 = ts3) (eH : H2 = H3) (k : LRuns P body ts3 H3 ex ts' H') : LRuns P body ts H ex ts' H' := by
  subst e; subst eH
  exact drop_step mask keep (runs_of_ev h hc) ho hin hr k

theorem stop_drop {P : Program} {body : Code} {ts ts1 ts2 ts' : List Dv} {H H1 H2 H' : List Ent} {ex : Ex} (hs : List Hint) (mask keep : List Nat) (C : List Prop) (h : ev P body ts H hs = some (C, ex, ts1, H1, [])) (hc : AllP C) (hne : ex ≠ .normal)
    (ho : once (List.range H.length ++ keep) = true) (hin : subEnts H1 (List.range H.length ++ keep) (List.range H.length ++ keep) = some H2)
    (hr : Dv.rns (toIds (List.range H.length ++ keep)) (junkAll ts1 mask) = some ts2) (e : ts2 = ts') (eH : H2 = H') : LRuns P body ts H ex ts' H' := by
  subst e; subst eH
  exact loop_stop hne (drop_runs mask keep (runs_of_ev h hc) ho hin hr)
end Go.Ev
namespace Go.Ev
mutual
theorem repC_flat {w w' : World} {S S' : Nat → Nat → Prop} : ∀ (x : Pl) (vs : List Value), x.flat = true → repC w S x vs → repC w' S' x vs
  | .int _ _, _, _, h => by simpa [repC] using h
  | .bool _, _, _, h => by simpa [repC] using h
  | .str _, _, h, _ => by simp [Pl.flat] at h
  | .ptr0, _, h, _ => by simp [Pl.flat] at h
  | .fn0, _, h, _ => by simp [Pl.flat] at h
  | .if0, _, h, _ => by simp [Pl.flat] at h
  | .map0, _, h, _ => by simp [Pl.flat] at h
  | .fnv _, _, h, _ => by simp [Pl.flat] at h
  | .agg xs, vs, hf, h => by
    simp only [Pl.flat] at hf
    simp only [repC] at h ⊢
    exact repCs_flat xs vs hf h
  | .arr n s xs, vs, hf, h => by
    simp only [Pl.flat] at hf
    simp only [repC] at h ⊢
    exact ⟨h.1, h.2.1, repCs_flat xs vs hf h.2.2⟩
  | .sl _ _ _, _, h, _ => by simp [Pl.flat] at h
  | .iface _ _, _, h, _ => by simp [Pl.flat] at h
theorem repCs_flat {w w' : World} {S S' : Nat → Nat → Prop} : ∀ (xs : List Pl) (vs : List Value), Pl.flats xs = true → repCs w S xs vs → repCs w' S' xs vs
  | [], _, _, h => by simpa [repCs] using h
  | x :: xs, vs, hf, h => by
    simp only [Pl.flats, Bool.and_eq_true] at hf
    simp only [repCs] at h ⊢
    obtain ⟨us, us', h1, h2, h3⟩ := h
    exact ⟨us, us', h1, repC_flat x us hf.1 h2, repCs_flat xs us' hf.2 h3⟩
end

/-- what a function made, and handed over, may be written to from now on -/
theorem con_thaw {P : Program} {g : FuncId} {args : List Dv} {s e : Nat} {xs : List Pl} (h : Con P g args [] (.own 0 true s xs) [.log s e xs]) (hf : Pl.flats xs = true) :
    Con P g args [] (.view 0 0 [] s 0 xs.length) [.var (.p (.arr xs.length s xs)) true] := by
  intro σ vs ok hH hrep
  refine Calls.mono (h σ vs ok hH hrep) ?_
  rintro e' w' ⟨v, σ', rfl, rfl, hH', hto, ok', hr⟩
  have hm0 : σ.m = [] := List.eq_nil_of_length_eq_zero (by rw [ok.len, hH]; rfl)
  obtain ⟨hsz, A, c, rfl, h2, h3, h4, h5, h6, e0, ys0, h7, h8, h9⟩ := repDV_own hr
  rw [hH'] at h7
  simp only [List.getElem?_cons_zero, Option.some.injEq, Ent.log.injEq, true_and] at h7
  obtain ⟨rfl, rfl⟩ := h7
  rcases h9 rfl with ⟨_, rfl, _⟩ | ⟨b, cur, hmb, rfl, hcur, hcs⟩
  · cases h4
  have hnew : σ.w.heap.size ≤ b := by
    rcases hto.same 0 b hmb with h | h
    · rw [hm0] at h; cases h
    · exact h
  have only : ∀ (i b' : Nat), σ'.m[i]? = some (some b') → i = 0 := by
    intro i b' h
    have : i < σ'.H.length := by rw [← ok'.len]; exact (List.getElem?_eq_some_iff.1 h).1
    rw [hH'] at this
    simpa using this
  let σ2 : Sg := { σ' with H := [.var (.p (.arr xs.length s xs)) true] }
  have hstab : ∀ b' o, b' ≠ b → σ'.stab b' o → σ2.stab b' o := by
    intro b' o hne hs
    refine ⟨hs.1, fun id e h1 h2 => ?_⟩
    have := only id b' h1
    subst this
    have h1' : σ'.m[0]? = some (some b') := h1
    rw [hmb] at h1'
    cases h1'
    exact absurd rfl hne
  have hent := ok'.ent 0 _ _ (by rw [hH']; rfl) hmb
  rcases hent with ⟨h, _⟩ | ⟨b', cur', cap, h, g3, g4, g5, g6, g7, g8⟩
  · cases h
  cases h
  rw [hcur] at g3
  cases g3
  refine ⟨_, σ2, rfl, rfl, rfl, ?_, ?_, ?_⟩
  · refine ⟨⟨fun b' o u h1 h2 => ?_, fun id b' h1 _ => ?_, fun id s' len A c' h1 => ?_, fun id b' h1 _ => ?_⟩, hto.F, hto.B, hto.os, hto.tape, hto.output, hto.size, hto.block, hto.same, hto.len⟩
    · obtain ⟨k1, k2⟩ := hto.leaf.cells b' o u h1 h2
      exact ⟨k1, hstab b' o (by have := cell_block_lt h1; omega) k2⟩
    · rw [hm0] at h1; cases h1
    · obtain ⟨e, ys, k, _⟩ := h1
      rw [hH] at k; cases k
    · rw [hm0] at h1; cases h1
  · refine ⟨?_, ok'.inj, ok'.lt, fun i e a h1 h2 => ?_, ok'.new, ok'.own⟩
    · show σ'.m.length = 1
      rw [ok'.len, hH']; rfl
    · have hi : i = 0 := by
        have : i < [Ent.var (.p (.arr xs.length s xs)) true].length := (List.getElem?_eq_some_iff.1 h1).1
        simpa using this
      subst hi
      have h1' : some (Ent.var (.p (.arr xs.length s xs)) true) = some e := h1
      cases h1'
      have h2' : σ'.m[0]? = some a := h2
      rw [hmb] at h2'
      cases h2'
      refine ⟨b, cur, _, rfl, hcur, ?_, ?_⟩
      · show repD σ2 (.p (.arr xs.length s xs)) (cur.toList.take (xs.length * s))
        simp only [repD, repC]
        exact ⟨trivial, hsz, repCs_flat xs _ hf g8⟩
      · show xs.length * s ≤ cur.size
        rw [g4]
        exact Nat.mul_le_mul_right _ g5
  · rw [repDV_one (by rfl)]
    simp only [repD]
    exact ⟨b, c, _, hmb, ⟨_, _, rfl⟩, rfl, h2, h3, fun _ => by simp⟩
theorem flats_u8 (l : List UInt8) : Pl.flats (l.map u8) = true := by
  induction l with
  | nil => rfl
  | cons x r ih => simp only [List.map_cons, Pl.flats, ih]; rfl
end Go.Ev
