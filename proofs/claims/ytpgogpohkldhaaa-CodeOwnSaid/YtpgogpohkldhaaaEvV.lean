/- The evaluator, part V: why it is right: code, functions. -/
import Derived.Test.YtpgogpohkldhaaaEvU3
set_option linter.unusedVariables false
set_option linter.unusedSimpArgs false
namespace Go.Ev

section
variable {P : Program}

theorem junkAll_rep {σ : Sg} {a : Act} : ∀ {mask : List Nat} {ts : List Dv}, RepT σ ts a → RepT σ (junkAll ts mask) a
  | [], _, h => h
  | i :: r, ts, h => by
    refine junkAll_rep (mask := r) ⟨by simpa using h.size, fun j d hj => ?_, h.defers⟩
    rw [List.getElem?_set] at hj
    split at hj
    · split at hj
      · cases hj; exact repDV_junk
      · cases hj
    · exact h.at_ j d hj

theorem ev_sound : ∀ (c : Code) (ts : List Dv) (H : List Ent) (hs hs' : List Hint) (C : List Prop) (ex : Ex) (ts' : List Dv) (H' : List Ent), ev P c ts H hs = some (C, ex, ts', H', hs') → AllP C → Runs P c ts H ex ts' H'
  | .skip, ts, H, hs, hs', C, ex, ts', H', h, hc => by
    simp only [ev, Option.some.injEq, Prod.mk.injEq] at h
    obtain ⟨rfl, rfl, rfl, rfl, rfl⟩ := h
    exact fun σ a ok hH hrep => wp_skip ⟨rfl, σ, rfl, hH, To.refl σ, ok, hrep⟩
  | .label _, ts, H, hs, hs', C, ex, ts', H', h, hc => by
    simp only [ev, Option.some.injEq, Prod.mk.injEq] at h
    obtain ⟨rfl, rfl, rfl, rfl, rfl⟩ := h
    exact fun σ a ok hH hrep => wp_label ⟨rfl, σ, rfl, hH, To.refl σ, ok, hrep⟩
  | .region id ops draw, ts, H, hs, hs', C, ex, ts', H', h, hc => by
    cases draw with
    | true =>
      simp only [ev, if_true] at h
      simp only [Option.map_eq_some_iff, Prod.mk.injEq] at h
      obtain ⟨⟨C1, ts1, H1, hs1⟩, h1, rfl, rfl, rfl, rfl, rfl⟩ := h
      intro σ a ok hH hrep
      subst hH
      exact evDraw_sound ok hrep h1 hc _ fun a' σ' e1 to ok' hrep' => ⟨rfl, σ', rfl, e1, to, ok', hrep'⟩
    | false =>
      simp only [ev, Bool.false_eq_true, if_false] at h
      simp only [Option.map_eq_some_iff, Prod.mk.injEq] at h
      obtain ⟨⟨C1, ts1, H1, hs1⟩, h1, rfl, rfl, rfl, rfl, rfl⟩ := h
      intro σ a ok hH hrep
      subst hH
      refine wp_region ?_
      have := evOps_sound (P := P) (ops := ops) (fun e a' w' => e = Ex.normal.to ∧ ∃ σ', σ'.w = w' ∧ σ'.H = H1 ∧ To σ σ' ∧ Ok σ' ∧ RepT σ' ts1 a') ops.toList 0 ts σ a hs hs1 C1 H1 (fun j => by simp) ok hrep h1 hc
        (fun a' σ' e1 to ok' hrep' => ⟨rfl, σ', rfl, e1, to, ok', hrep'⟩)
      rw [List.range_eq_range']
      simpa using this
  | .seq x y, ts, H, hs, hs', C, ex, ts', H', h, hc => by
    simp only [ev] at h
    split at h
    · rename_i C1 ts1 H1 hs1 h1
      split at h
      · rename_i C2 ex2 ts2 H2 hs2 h2
        simp only [Option.some.injEq, Prod.mk.injEq] at h
        obtain ⟨rfl, rfl, rfl, rfl, rfl⟩ := h
        obtain ⟨c1, c2⟩ := allP_append.1 hc
        have r1 := ev_sound x _ _ _ _ _ _ _ _ h1 c1
        have r2 := ev_sound y _ _ _ _ _ _ _ _ h2 c2
        intro σ a ok hH hrep
        refine wp_seq (wp_mono (r1 σ a ok hH hrep) ?_)
        rintro e a' w' ⟨rfl, σ1, rfl, e1, to1, ok1, hrep1⟩
        refine wp_mono (r2 σ1 a' ok1 e1 hrep1) ?_
        rintro e a'' w'' ⟨rfl, σ2, rfl, e2, to2, ok2, hrep2⟩
        exact ⟨rfl, σ2, rfl, e2, to1.trans to2, ok2, hrep2⟩
      · cases h
    · rename_i r hne
      have r1 := ev_sound x _ _ _ _ _ _ _ _ h hc
      intro σ a ok hH hrep
      refine wp_seq (wp_mono (r1 σ a ok hH hrep) ?_)
      rintro e a' w' ⟨rfl, hq⟩
      cases ex with
      | normal => exact absurd h (hne _ _ _ _)
      | exit id => exact ⟨rfl, hq⟩
      | ret => exact ⟨rfl, hq⟩
  | .cond c x y, ts, H, hs, hs', C, ex, ts', H', h, hc => by
    simp only [ev] at h
    split at h
    · rename_i t hs1 hcv
      simp only [Option.map_eq_some_iff, Prod.mk.injEq] at h
      obtain ⟨⟨C1, r⟩, h1, rfl, rfl⟩ := h
      obtain ⟨c0, c1⟩ := hc
      have r1 := ev_sound x _ _ _ _ _ _ _ _ h1 c1
      intro σ a ok hH hrep
      have hv := arg_rep (P := P) hrep 0 c
      rw [hcv] at hv
      exact wp_cond_true (by rw [repDV_bool hv, c0]) (r1 σ a ok hH hrep)
    · rename_i t hs1 hcv
      simp only [Option.map_eq_some_iff, Prod.mk.injEq] at h
      obtain ⟨⟨C1, r⟩, h1, rfl, rfl⟩ := h
      obtain ⟨c0, c1⟩ := hc
      have r1 := ev_sound y _ _ _ _ _ _ _ _ h1 c1
      intro σ a ok hH hrep
      have hv := arg_rep (P := P) hrep 0 c
      rw [hcv] at hv
      exact wp_cond_false (by rw [repDV_bool hv, c0]) (r1 σ a ok hH hrep)
    · cases h
  | .block id body, ts, H, hs, hs', C, ex, ts', H', h, hc => by
    simp only [ev] at h
    split at h
    · rename_i C1 id' ts1 H1 hs1 h1
      simp only [Option.some.injEq, Prod.mk.injEq] at h
      obtain ⟨rfl, rfl, rfl, rfl, rfl⟩ := h
      have r1 := ev_sound body _ _ _ _ _ _ _ _ h1 hc
      intro σ a ok hH hrep
      refine wp_block (wp_mono (r1 σ a ok hH hrep) ?_)
      rintro e a' w' ⟨rfl, hq⟩
      simp only [Ex.to, Exit.inBlock]
      split
      · rename_i he
        exact ⟨rfl, hq⟩
      · rename_i he
        exact ⟨rfl, hq⟩
    · rename_i r hne
      have r1 := ev_sound body _ _ _ _ _ _ _ _ h hc
      intro σ a ok hH hrep
      refine wp_block (wp_mono (r1 σ a ok hH hrep) ?_)
      rintro e a' w' ⟨rfl, hq⟩
      cases ex with
      | normal => exact ⟨rfl, hq⟩
      | exit id' => exact absurd h (hne _ _ _ _ _)
      | ret => exact ⟨rfl, hq⟩
  | .loop body, ts, H, hs, hs', C, ex, ts', H', h, hc => by
    simp only [ev] at h
    split at h
    · rename_i mask ex1 ts1 H1 hs1
      split at h
      · cases h
      · simp only [Option.some.injEq, Prod.mk.injEq] at h
        obtain ⟨rfl, rfl, rfl, rfl, rfl⟩ := h
        exact fun σ a ok hH hrep => hc.1 σ a ok hH (junkAll_rep hrep)
    · cases h
  | .scope body, ts, H, hs, hs', C, ex, ts', H', h, hc => by
    simp only [ev] at h
    have r1 := ev_sound body _ _ _ _ _ _ _ _ h hc
    intro σ a ok hH hrep
    refine wp_scope_straight (wp_mono (r1 σ a ok hH hrep) ?_)
    rintro e a' w' ⟨rfl, hq⟩
    cases ex <;> exact ⟨rfl, hq⟩
  | .exit id, ts, H, hs, hs', C, ex, ts', H', h, hc => by
    simp only [ev, Option.some.injEq, Prod.mk.injEq] at h
    obtain ⟨rfl, rfl, rfl, rfl, rfl⟩ := h
    exact fun σ a ok hH hrep => wp_exit ⟨rfl, σ, rfl, hH, To.refl σ, ok, hrep⟩
  | .ret, ts, H, hs, hs', C, ex, ts', H', h, hc => by
    simp only [ev, Option.some.injEq, Prod.mk.injEq] at h
    obtain ⟨rfl, rfl, rfl, rfl, rfl⟩ := h
    exact fun σ a ok hH hrep => wp_ret ⟨rfl, σ, rfl, hH, To.refl σ, ok, hrep⟩
  | .rangeFunc _ _ _ _, ts, H, hs, hs', C, ex, ts', H', h, hc => by simp [ev] at h
  | .goto _, ts, H, hs, hs', C, ex, ts', H', h, hc => by simp [ev] at h
  | .refuse _, ts, H, hs, hs', C, ex, ts', H', h, hc => by simp [ev] at h

/-! ### Loops -/

/-- a loop's rounds, from a round's head on -/
def LRuns (P : Program) (body : Code) (ts : List Dv) (H : List Ent) (ex : Ex) (ts' : List Dv) (H' : List Ent) : Prop :=
  ∀ (σ : Sg) (a : Act), Ok σ → σ.H = H → RepT σ ts a → ∀ (b : Frame) (k : List Item) (cs : List Frame),
    ∃ e a' w', (e = ex.to ∧ ∃ σ', σ'.w = w' ∧ σ'.H = H' ∧ To σ σ' ∧ Ok σ' ∧ RepT σ' ts' a') ∧ Arrives P (lone (b.at a (.code body :: .inLoop body :: k)) cs σ.w) b k cs e a' w'

theorem loop_stop {body : Code} {ts ts' : List Dv} {H H' : List Ent} {ex : Ex} (hne : ex ≠ .normal) (h : Runs P body ts H ex ts' H') : LRuns P body ts H ex ts' H' := by
  intro σ a ok hH hrep b k cs
  obtain ⟨e, a1, w1, hq, harr⟩ := h σ a ok hH hrep b (.inLoop body :: k) cs
  obtain ⟨he, hq'⟩ := hq
  subst he
  refine ⟨ex.to, a1, w1, ⟨rfl, hq'⟩, ?_⟩
  cases ex with
  | normal => exact absurd rfl hne
  | exit id => exact .pass (x := .inLoop body) rfl (fun _ _ => .inl (by simp [Ex.to])) harr
  | ret => exact .pass (x := .inLoop body) rfl (fun _ _ => .inl (by simp [Ex.to])) harr

/-- a loop of which one round goes on, and the rest is known -/
theorem loop_step {body : Code} {ts ts1 ts' : List Dv} {H H1 H' : List Ent} {ex : Ex} (mask : List Nat) (h1 : Runs P body ts H .normal ts1 H1) (h2 : LRuns P body (junkAll ts1 mask) H1 ex ts' H') : LRuns P body ts H ex ts' H' := by
  intro σ a ok hH hrep b k cs
  obtain ⟨e, a1, w1, ⟨rfl, σ1, rfl, e1, to1, ok1, hrep1⟩, harr⟩ := h1 σ a ok hH hrep b (.inLoop body :: k) cs
  obtain ⟨e, a2, w2, ⟨rfl, σ2, rfl, e2, to2, ok2, hrep2⟩, harr2⟩ := h2 σ1 a1 ok1 e1 (junkAll_rep hrep1) b k cs
  exact ⟨ex.to, a2, σ2.w, ⟨rfl, σ2, rfl, e2, to1.trans to2, ok2, hrep2⟩, .of_steps (Steps.trans harr (.one step_inLoop)) harr2⟩

theorem loop_next {body : Code} {ts ts1 ts2 ts' : List Dv} {H H1 H' : List Ent} {ex : Ex} (mask : List Nat) (h1 : Runs P body ts H .normal ts1 H1) (e : junkAll ts1 mask = ts2) (h2 : LRuns P body ts2 H1 ex ts' H') : LRuns P body ts H ex ts' H' :=
  loop_step mask h1 (by rw [e]; exact h2)

theorem runs_loop {body : Code} {ts ts' : List Dv} {H H' : List Ent} {ex : Ex} (h : LRuns P body ts H ex ts' H') : Runs P (.loop body) ts H ex ts' H' := by
  intro σ a ok hH hrep b k cs
  obtain ⟨e, a1, w1, hq, harr⟩ := h σ a ok hH hrep b k cs
  exact ⟨e, a1, w1, hq, .of_steps (.one step_loop) harr⟩

/-! ### What is left behind -/

/-- the state with some of its entries alone -/
def part' (σ : Sg) (L : List Nat) (H : List Ent) : Sg := { F := σ.F, B := σ.B, m := L.map fun id => (σ.m[id]?).getD none, H := H, w := σ.w }

theorem part_m {σ : Sg} {L : List Nat} {H : List Ent} {j id : Nat} {x : Option Nat} (h : L[j]? = some id) (hm : σ.m[id]? = some x) : (part' σ L H).m[j]? = some x := by
  show (L.map fun id => (σ.m[id]?).getD none)[j]? = some x
  rw [List.getElem?_map, h]
  simp [hm]
theorem part_m_of {σ : Sg} {L : List Nat} {H : List Ent} {j b : Nat} (h : (part' σ L H).m[j]? = some (some b)) : ∃ id, L[j]? = some id ∧ σ.m[id]? = some (some b) :=
  callee_m_of (σ := σ) (ids := L) (Hin := H) h

theorem part_rn {σ : Sg} {L : List Nat} {H : List Ent} (hin : subEnts σ.H L L = some H) : Rn (toIds L) σ (part' σ L H) where
  w := rfl
  stab b o v _ h := by
    refine ⟨h.1, fun j e hj he => ?_⟩
    obtain ⟨id, h1, h2⟩ := part_m_of hj
    obtain ⟨e0, e', h3, h4, h5⟩ := subEnts_at hin h1
    have he' : H[j]? = some e := he
    rw [h4] at he'
    cases he'
    exact (rn_unlocked h5).2 (h.2 id e0 h2 h3)
  m id j hj x hx := part_m (idxOf?_some hj) hx
  H id j hj e he := by
    obtain ⟨e0, e', h3, h4, h5⟩ := subEnts_at hin (idxOf?_some hj)
    rw [he] at h3
    cases h3
    exact ⟨e', h4, h5⟩

theorem part_ok {σ : Sg} (ok : Ok σ) {L : List Nat} {H : List Ent} (ho : once L = true) (hin : subEnts σ.H L L = some H) : Ok (part' σ L H) where
  len := by
    show (L.map _).length = H.length
    rw [List.length_map, subEnts_length hin]
  inj i j b hi hj := by
    obtain ⟨x, h1, h2⟩ := part_m_of hi
    obtain ⟨y, h3, h4⟩ := part_m_of hj
    have := ok.inj x y b h2 h4
    subst this
    exact once_inj ho i j x h1 h3
  lt i b hi := by
    obtain ⟨x, h1, h2⟩ := part_m_of hi
    exact ok.lt x b h2
  ent i e x he hx := by
    have he' : H[i]? = some e := he
    have hi : i < L.length := by rw [← subEnts_length hin]; exact (List.getElem?_eq_some_iff.1 he').1
    obtain ⟨e0, e', h3, h4, h5⟩ := subEnts_at hin (List.getElem?_eq_getElem hi)
    rw [he'] at h4
    cases h4
    have hm : ∃ y, σ.m[L[i]]? = some y := by
      have : L[i] < σ.m.length := by rw [ok.len]; exact (List.getElem?_eq_some_iff.1 h3).1
      exact ⟨_, List.getElem?_eq_getElem this⟩
    obtain ⟨y, hy⟩ := hm
    have := part_m (H := H) (List.getElem?_eq_getElem hi) hy
    rw [hx] at this
    cases this
    exact entOk_rn (part_rn hin) h5 (ok.ent _ _ _ h3 hy)
  new b hb := ok.new b hb
  own i b hi := by
    obtain ⟨x, h1, h2⟩ := part_m_of hi
    exact ok.own x b h2

theorem part_to {σ σ' : Sg} (ok : Ok σ) (to : To σ σ') {keep : List Nat} {H : List Ent} (ho : once (List.range σ.H.length ++ keep) = true) (hin : subEnts σ'.H (List.range σ.H.length ++ keep) (List.range σ.H.length ++ keep) = some H) :
    To σ (part' σ' (List.range σ.H.length ++ keep) H) := by
  have hf : ∀ id, id < σ.H.length → toIds (List.range σ.H.length ++ keep) id = some id := fun id h => by
    refine idxOf?_of ho ?_
    rw [List.getElem?_append_left (by simpa using h), List.getElem?_range h]
  have rn := part_rn hin
  refine ⟨⟨fun b o v h1 h2 => ?_, fun id b h1 h2 => ?_, fun id s len A c h1 => ?_, fun id b h1 h2 => ?_⟩, to.F, to.B, to.os, to.tape, to.output, to.size, fun b h1 h2 => to.block b h1 h2, fun id b h => ?_, ?_⟩
  · obtain ⟨h3, h4⟩ := to.leaf.cells b o v h1 h2
    exact ⟨h3, rn.stab b o v h3 h4⟩
  · have hlt : id < σ.H.length := by rw [← ok.len]; exact (List.getElem?_eq_some_iff.1 h1).1
    obtain ⟨h3, h4⟩ := to.leaf.var id b h1 h2
    exact ⟨rn.m _ _ (hf id hlt) _ h3, rn.var (hf id hlt) h4⟩
  · have hlt : id < σ.H.length := by
      obtain ⟨e, ys, h2, _⟩ := h1
      exact (List.getElem?_eq_some_iff.1 h2).1
    exact rn.front (hf id hlt) (to.leaf.front _ _ _ _ _ h1)
  · have hlt : id < σ.H.length := by rw [← ok.len]; exact (List.getElem?_eq_some_iff.1 h1).1
    obtain ⟨h3, h4⟩ := to.leaf.map id b h1 h2
    exact ⟨rn.m _ _ (hf id hlt) _ h3, rn.map (hf id hlt) h4⟩
  · obtain ⟨x, h1, h2⟩ := part_m_of h
    rcases to.same x b h2 with h3 | h3
    · have hlt : x < σ.H.length := by rw [← ok.len]; exact (List.getElem?_eq_some_iff.1 h3).1
      have := idxOf?_of ho h1
      have h4 := hf x hlt
      unfold toIds at h4
      rw [this] at h4
      cases h4
      exact .inl h3
    · exact .inr h3
  · show σ.m.length ≤ ((List.range σ.H.length ++ keep).map _).length
    rw [ok.len]
    simp

/-! ### Functions -/

def resFn (tmps : Array Value) : ResultVar → Sem Value
  | .tmp t => pure (tmps.getD t undef)
  | .cell x t => do loadVar t (← asAddr (tmps.getD x undef))

theorem results_eq (fn : Func) (tmps : Array Value) : results fn tmps = (do let vs ← fn.results.mapM (resFn tmps); pure (if h : vs.size = 1 then vs[0] else .tuple vs)) := by
  unfold results
  have : (fun (rv : ResultVar) => (match rv with | .tmp t => pure (tmps.getD t undef) | .cell a t => do loadVar t (← asAddr (tmps.getD a undef)) : Sem Value)) = resFn tmps := by
    funext rv; cases rv <;> rfl
  exact congrArg (fun f => (do let vs ← fn.results.mapM f; pure (if h : vs.size = 1 then vs[0] else .tuple vs) : Sem Value)) this

theorem resD_sound {σ : Sg} {a : Act} {ts : List Dv} (ok : Ok σ) (hrep : RepT σ ts a) : ∀ (rs : List ResultVar) (hs : List Hint) (C : List Prop) (ds : List Dv), resD P ts σ.H rs hs = some (C, ds) → AllP C →
    ∃ vs, Sem.run P (rs.mapM (resFn a.tmps)) σ.w = Result.ok vs σ.w ∧ repVs σ ds vs
  | [], hs, C, ds, h, _ => by
    simp only [resD, Option.some.injEq, Prod.mk.injEq] at h
    obtain ⟨rfl, rfl⟩ := h
    exact ⟨[], by simp, by simp [repVs]⟩
  | .tmp t :: r, hs, C, ds, h, hc => by
    simp only [resD, Option.map_eq_some_iff, Prod.mk.injEq] at h
    obtain ⟨⟨C1, ds1⟩, h1, rfl, rfl⟩ := h
    obtain ⟨vs, h2, h3⟩ := resD_sound ok hrep r hs C1 ds1 h1 hc
    have h4 := arg_rep (P := P) hrep 0 (.tmp t)
    refine ⟨a.tmps.getD t undef :: vs, ?_, ?_⟩
    · simp only [List.mapM_cons, resFn, Sem.run_bind, Sem.run_pure, Result.andThen_ok, h2]
    · simp only [repVs]
      exact ⟨_, _, rfl, h4, h3⟩
  | .cell x t :: r, hs, C, ds, h, hc => by
    simp only [resD] at h
    split at h
    · rename_i id off path hx
      split at h
      · rename_i dd st hH
        split at h
        · rename_i C1 off' sub hs1 hg
          split at h
          · rename_i hk
            simp only [Option.map_eq_some_iff, Prod.mk.injEq] at h
            obtain ⟨⟨C2, ds1⟩, h1, rfl, rfl⟩ := h
            obtain ⟨c1, c2⟩ := allP_append.1 hc
            obtain ⟨c1, c3⟩ := allP_append.1 c1
            obtain ⟨vs, h2, h3⟩ := resD_sound ok hrep r hs1 C2 ds1 h1 c2
            have hv := arg_rep (P := P) hrep 0 (.tmp x)
            simp only [argD, hx] at hv
            obtain ⟨b, hm, _, hxv⟩ := ref_one hv
            unfold okT at hk
            simp only [Bool.and_eq_true, beq_iff_eq] at hk
            obtain ⟨⟨⟨k1, k2⟩, k3⟩, k4⟩ := hk
            obtain ⟨cs, t', p1, p2, p3, _, _, _, _, h5, _, h6⟩ := at_place ok hm hH hg c1 c3.1
            obtain ⟨v, h7, h8⟩ := loadVar_run (P := P) h5 h6 k1 k4 k3 k2
            have hxv' : a.tmps.getD x undef = .pointer (some ⟨b, off, none⟩) := hxv
            refine ⟨v :: vs, ?_, ?_⟩
            · have ha : asAddr (a.tmps.getD x undef) = pure ⟨b, off, none⟩ := by rw [hxv']; rfl
              simp only [List.mapM_cons, resFn, ha, Sem.run_bind, Sem.run_pure, Result.andThen_ok, h7, h2]
            · simp only [repVs]
              exact ⟨_, _, rfl, h8, h3⟩
          · cases h
        · cases h
      · cases h
    · cases h

theorem oneOf_rep {σ : Sg} {ds : List Dv} {vs : List Value} (h : repVs σ ds vs) : repDV σ (oneOf ds) (if h : vs.toArray.size = 1 then vs.toArray[0] else .tuple vs.toArray) := by
  have hl := repVs_len h
  unfold oneOf
  split
  · rename_i d
    simp only [repVs] at h
    obtain ⟨v, vs', rfl, h1, h2⟩ := h
    have : vs' = [] := h2
    subst this
    have e : (if h : [v].toArray.size = 1 then [v].toArray[0] else Value.tuple [v].toArray) = v := by simp
    rw [e]
    exact h1
  · rename_i hne
    have hn : ¬ vs.toArray.size = 1 := by
      intro hs
      have hd : ds.length = 1 := by rw [← hl]; simpa using hs
      match ds, hd with
      | [d], _ => exact hne d rfl
    rw [dif_neg hn, repDV_one rfl]
    simp only [repD]
    exact ⟨_, rfl, by simpa using h⟩

theorem con_of_runs {g : FuncId} {fn : Func} {c : Code} {args ts' : List Dv} {H H1 H' : List Ent} {ex : Ex} {r : Dv} {keep : List Nat} {hs : List Hint} {C : List Prop} (hf : P.funcs[g]? = some fn) (hb : fn.body = some c)
    (hr : Runs P c (args ++ List.replicate (fn.ntmps - args.length) .junk) H ex ts' H1) (hex : ex = .ret ∨ ex = .normal) (hfin : fin P fn ts' H1 H.length keep hs = some (C, r, H')) (hc : AllP C) : Con P g args H r H' := by
  intro σ vs ok hH hvs
  refine calls_of_wp hf hb ?_
  have hl := repVs_len hvs
  have hrep : RepT σ (args ++ List.replicate (fn.ntmps - args.length) .junk) { tmps := vs.toArray ++ Array.replicate (fn.ntmps - vs.toArray.size) undef, defers := [] } := by
    refine ⟨by simp [hl], fun i d hi => ?_, rfl⟩
    rcases Nat.lt_or_ge i args.length with h1 | h1
    · rw [List.getElem?_append_left h1] at hi
      obtain ⟨v, h2, h3⟩ := repVs_at hvs hi
      have h4 : (vs.toArray ++ Array.replicate (fn.ntmps - vs.toArray.size) undef)[i]? = some v := by
        rw [Array.getElem?_append_left (by simpa [hl] using h1)]
        simpa using h2
      rw [Array.getD_eq_getD_getElem?, h4]
      exact h3
    · rw [List.getElem?_append_right h1] at hi
      have := List.eq_of_mem_replicate (List.mem_of_getElem? hi)
      rw [this]
      exact repDV_junk
  refine wp_mono (hr σ _ ok hH hrep) ?_
  rintro e a w' ⟨rfl, σ', rfl, e1, to, ok', hrep'⟩
  unfold fin at hfin
  split at hfin
  · rename_i C1 ds hres
    dsimp only at hfin
    have main : ∀ r, (oneOf ds).rn (toIds (List.range H.length ++ keep)) = some r ∨ (oneOf (ds.map Dv.arg)).rn (toIds (List.range H.length ++ keep)) = some r → once (List.range H.length ++ keep) = true →
        subEnts H1 (List.range H.length ++ keep) (List.range H.length ++ keep) = some H' → AllP C1 → a.defers = [] ∧ ∃ v, (results fn a.tmps).run P σ'.w = .ok v σ'.w ∧
          ∃ v0 σ'', (Ending.returned v) = .returned v0 ∧ σ''.w = σ'.w ∧ σ''.H = H' ∧ To σ σ'' ∧ Ok σ'' ∧ repDV σ'' r v0 := by
      intro r hrn honce hsub hc1
      refine ⟨hrep'.defers, ?_⟩
      rw [← e1] at hres hsub
      obtain ⟨vs', h2, h3⟩ := resD_sound (P := P) ok' hrep' _ _ _ _ hres hc1
      refine ⟨if h : vs'.toArray.size = 1 then vs'.toArray[0] else .tuple vs'.toArray, ?_, if h : vs'.toArray.size = 1 then vs'.toArray[0] else .tuple vs'.toArray,
        part' σ' (List.range H.length ++ keep) H', rfl, rfl, rfl, ?_, part_ok ok' honce hsub, ?_⟩
      · rw [results_eq, Sem.run_bind, ← Array.toArray_toList (xs := fn.results), List.mapM_toArray]
        simp only [Sem.run_map, h2, Result.andThen_ok, Sem.run_pure]
      · rw [← hH] at honce hsub ⊢
        exact part_to ok to honce hsub
      · rcases hrn with hrn | hrn
        · exact repDV_rn (part_rn hsub) hrn (oneOf_rep h3)
        · refine repDV_rn (part_rn hsub) hrn (oneOf_rep ?_)
          exact caps_rep h3
    have main' : bodyPost P fn (fun e w' => ∃ v σ'', e = .returned v ∧ σ''.w = w' ∧ σ''.H = H' ∧ To σ σ'' ∧ Ok σ'' ∧ repDV σ'' r v) ex.to a σ'.w := by
      have hall : a.defers = [] ∧ ∃ v, (results fn a.tmps).run P σ'.w = .ok v σ'.w ∧ ∃ v0 σ'', (Ending.returned v) = .returned v0 ∧ σ''.w = σ'.w ∧ σ''.H = H' ∧ To σ σ'' ∧ Ok σ'' ∧ repDV σ'' r v0 := by
        split at hfin
        · rename_i ho hrn hsub
          simp only [Option.some.injEq, Prod.mk.injEq] at hfin
          obtain ⟨rfl, rfl, rfl⟩ := hfin
          exact main _ (.inl hrn) ho hsub hc
        · rename_i ho hrn _ hsub
          simp only [Option.some.injEq, Prod.mk.injEq] at hfin
          obtain ⟨rfl, rfl, rfl⟩ := hfin
          exact main _ (.inr hrn) ho hsub hc
        · cases hfin
      rcases hex with rfl | rfl
      · exact hall
      · exact hall
    exact main'
  · cases hfin
end
end Go.Ev
