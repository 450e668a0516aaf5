/- The evaluator, part Y: rounds of a loop behind which entries are forgotten. -/
import Derived.Test.YtpgogpohkldhaaaEvX
set_option linter.unusedVariables false
set_option linter.unusedSimpArgs false
namespace Go.Ev

theorem repT_rns {f : Nat → Option Nat} {σ σ' : Sg} (h : Rn f σ σ') {ts ts' : List Dv} {a : Act} (e : Dv.rns f ts = some ts') (hr : RepT σ ts a) : RepT σ' ts' a := by
  refine ⟨by rw [rns_length e]; exact hr.size, ?_, hr.defers⟩
  have key : ∀ (xs ys : List Dv), Dv.rns f xs = some ys → ∀ (i : Nat) (d : Dv), ys[i]? = some d → ∃ d0, xs[i]? = some d0 ∧ d0.rn f = some d := by
    intro xs
    induction xs with
    | nil =>
      intro ys h1 i d h2
      simp only [Dv.rns, Option.some.injEq] at h1
      subst h1
      simp at h2
    | cons x r ih =>
      intro ys h1 i d h2
      simp only [Dv.rns] at h1
      split at h1
      · rename_i y ys' h3 h4
        cases h1
        cases i with
        | zero => simp only [List.getElem?_cons_zero, Option.some.injEq] at h2 ⊢; subst h2; exact ⟨x, rfl, h3⟩
        | succ j => simp only [List.getElem?_cons_succ] at h2 ⊢; exact ih _ h4 j d h2
      · cases h1
  intro i d hd
  obtain ⟨d0, h1, h2⟩ := key ts ts' e i d hd
  exact repDV_rn h h2 (hr.at_ i d0 h1)

/-- a round that goes on, behind which some entries are forgotten -/
theorem drop_step {P : Program} {body : Code} {ts ts1 ts2 ts' : List Dv} {H H1 H2 H' : List Ent} {ex : Ex} (mask keep : List Nat) (h1 : Runs P body ts H .normal ts1 H1)
    (ho : once (List.range H.length ++ keep) = true) (hin : subEnts H1 (List.range H.length ++ keep) (List.range H.length ++ keep) = some H2)
    (e : Dv.rns (toIds (List.range H.length ++ keep)) (junkAll ts1 mask) = some ts2) (h2 : LRuns P body ts2 H2 ex ts' H') : LRuns P body ts H ex ts' H' := by
  intro σ a ok hH hrep b k cs
  subst hH
  obtain ⟨e', a1, w1, ⟨rfl, σ1, rfl, e1, to1, ok1, hrep1⟩, harr⟩ := h1 σ a ok rfl hrep b (.inLoop body :: k) cs
  subst e1
  have hrep2 := repT_rns (part_rn hin) e (junkAll_rep (mask := mask) hrep1)
  obtain ⟨e3, a2, w2, ⟨rfl, σ2, rfl, e2, to2, ok2, hrep3⟩, harr2⟩ := h2 (part' σ1 (List.range σ.H.length ++ keep) H2) a1 (part_ok ok1 ho hin) rfl hrep2 b k cs
  exact ⟨ex.to, a2, σ2.w, ⟨rfl, σ2, rfl, e2, (part_to ok to1 ho hin).trans to2, ok2, hrep3⟩, .of_steps (Steps.trans harr (.one step_inLoop)) harr2⟩

/-- a round that ends the loop, behind which some entries are forgotten -/
theorem drop_runs {P : Program} {body : Code} {ts ts1 ts2 : List Dv} {H H1 H2 : List Ent} {ex : Ex} (mask keep : List Nat) (h1 : Runs P body ts H ex ts1 H1)
    (ho : once (List.range H.length ++ keep) = true) (hin : subEnts H1 (List.range H.length ++ keep) (List.range H.length ++ keep) = some H2)
    (e : Dv.rns (toIds (List.range H.length ++ keep)) (junkAll ts1 mask) = some ts2) : Runs P body ts H ex ts2 H2 := by
  intro σ a ok hH hrep
  subst hH
  refine wp_mono (h1 σ a ok rfl hrep) ?_
  rintro e' a' w' ⟨rfl, σ1, rfl, e1, to1, ok1, hrep1⟩
  subst e1
  exact ⟨rfl, part' σ1 (List.range σ.H.length ++ keep) H2, rfl, rfl, part_to ok to1 ho hin, part_ok ok1 ho hin, repT_rns (part_rn hin) e (junkAll_rep (mask := mask) hrep1)⟩

theorem round_drop {P : Program} {body : Code} {ts ts1 ts2 ts3 ts' : List Dv} {H H1 H2 H3 H' : List Ent} {ex : Ex} (hs : List Hint) (mask keep : List Nat) (C : List Prop) (h : ev P body ts H hs = some (C, .normal, ts1, H1, [])) (hc : AllP C)
    (ho : once (List.range H.length ++ keep) = true) (hin : subEnts H1 (List.range H.length ++ keep) (List.range H.length ++ keep) = some H2)
    (hr : Dv.rns (toIds (List.range H.length ++ keep)) (junkAll ts1 mask) = some ts2) (e : ts2 = ts3) (eH : H2 = H3) (k : LRuns P body ts3 H3 ex ts' H') : LRuns P body ts H ex ts' H' := by
  subst e; subst eH
  exact drop_step mask keep (runs_of_ev h hc) ho hin hr k

theorem stop_drop {P : Program} {body : Code} {ts ts1 ts2 ts' : List Dv} {H H1 H2 H' : List Ent} {ex : Ex} (hs : List Hint) (mask keep : List Nat) (C : List Prop) (h : ev P body ts H hs = some (C, ex, ts1, H1, [])) (hc : AllP C) (hne : ex ≠ .normal)
    (ho : once (List.range H.length ++ keep) = true) (hin : subEnts H1 (List.range H.length ++ keep) (List.range H.length ++ keep) = some H2)
    (hr : Dv.rns (toIds (List.range H.length ++ keep)) (junkAll ts1 mask) = some ts2) (e : ts2 = ts') (eH : H2 = H') : LRuns P body ts H ex ts' H' := by
  subst e; subst eH
  exact loop_stop hne (drop_runs mask keep (runs_of_ev h hc) ho hin hr)
end Go.Ev
