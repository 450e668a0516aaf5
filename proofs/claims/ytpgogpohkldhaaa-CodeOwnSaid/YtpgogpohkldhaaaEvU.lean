/- The evaluator, part U: why it is right: regions, code, functions. -/
import Derived.Test.YtpgogpohkldhaaaEvQ2
import Derived.Scope
set_option linter.unusedVariables false
set_option linter.unusedSimpArgs false
namespace Go.Ev

section
variable {P : Program} {o : Oper} {a : Act} {σ : Sg} {ts : List Dv} {hs hs' : List Hint} {C : List Prop} {d : Dv} {H' : List Ent}

theorem evE_sound (ok : Ok σ) (hrep : RepT σ ts a) (h : evE P o ts σ.H hs = some (C, d, H', hs')) (hc : AllP C) : OpOk P o a σ d H' := by
  unfold evE at h
  split at h
  · rename_i x ho
    have hv := arg_rep (P := P) hrep o.type x
    split at h
    · rename_i t' hs1
      split at h
      · split at h
        · rename_i e s hu hx
          rw [hx] at hv
          split at h
          · rename_i i hi
            split at h
            · simp only [Option.some.injEq, Prod.mk.injEq] at h
              obtain ⟨rfl, rfl, rfl, rfl⟩ := h
              obtain ⟨to, ok'⟩ := push_to (σ' := { σ with m := σ.m ++ [none], H := σ.H ++ [.log i.size e []] }) ok rfl rfl rfl rfl (World.grownBy.refl σ.w none) (.inl rfl) (fun _ => .inl ⟨rfl, rfl⟩)
              refine opOk_step (σ' := { σ with m := σ.m ++ [none], H := σ.H ++ [.log i.size e []] }) (v := .slice none 0 0) (by simp [execOp, ho, nilsl hv]) to ok' ?_
              rw [repDV_one rfl]
              simp only [repD]
              refine ⟨fun _ hx => (by cases hx), none, 0, rfl, Nat.le_refl _, by simp [maxLen], rfl, fun _ => rfl, fun h => absurd rfl h, e, [], by simp, Nat.le_refl _, fun _ => .inl ⟨?_, rfl, rfl⟩⟩
              rw [List.getElem?_append_right (by rw [ok.len]; exact Nat.le_refl _), ok.len]
              simp
            · cases h
          · cases h
        · cases h
      · cases h
    · cases h
  · rename_i t ho
    split at h
    · rename_i i hi
      split at h
      · rename_i hk
        simp only [Bool.and_eq_true] at hk
        simp only [Option.some.injEq, Prod.mk.injEq] at h
        obtain ⟨rfl, rfl, rfl, rfl⟩ := h
        exact e_alloc ok ho hi (by obtain ⟨z, hz, _⟩ := zOk_spec hk.1.1; rw [hz]; rfl) hk.1.2 hk.2
      · cases h
    · cases h
  · rename_i t x ho
    have hv := arg_rep (P := P) hrep t x
    dsimp only at h
    split at h
    · rename_i y hy
      split at h
      · rename_i t' hs1
        split at h
        case isFalse =>
          simp only [Option.some.injEq, Prod.mk.injEq] at h
          obtain ⟨rfl, rfl, rfl, rfl⟩ := h
          exact e_box ok ho rfl (plain_rep hy hv)
        split at h
        · rename_i xs
          simp only [Option.some.injEq, Prod.mk.injEq] at h
          obtain ⟨rfl, rfl, rfl, rfl⟩ := h
          have h1 := plain_rep hy hv
          refine e_box ok ho ?_ ?_
          · simp only [Dv.solid]
            clear h1 hy
            induction xs with
            | nil => rfl
            | cons x xs ih => simpa [Dv.solids, Dv.solid] using ih
          · obtain ⟨cs, h2, h3⟩ := (repDV_agg rfl).1 h1
            rw [repDV_agg rfl]
            exact ⟨cs, h2, by simp only [repD, repC] at h3 ⊢; exact repDs_p.2 h3⟩
        · cases h
      · simp only [Option.some.injEq, Prod.mk.injEq] at h
        obtain ⟨rfl, rfl, rfl, rfl⟩ := h
        exact e_box ok ho rfl (plain_rep hy hv)
    · split at h
      · rename_i hk
        simp only [Option.some.injEq, Prod.mk.injEq] at h
        obtain ⟨rfl, rfl, rfl, rfl⟩ := h
        exact e_box ok ho hk hv
      · cases h
  · rename_i t x y ho
    split at h
    · rename_i id off path hx
      split at h
      · rename_i dd hH
        split at h
        · rename_i C1 off' sub hs1 hg
          split at h
          · rename_i new hn
            split at h
            · rename_i d' hp
              split at h
              · rename_i hk
                simp only [Bool.and_eq_true, beq_iff_eq] at hk
                obtain ⟨⟨⟨⟨k1, k2⟩, k3⟩, k4⟩, k5⟩ := hk
                simp only [Option.some.injEq, Prod.mk.injEq] at h
                obtain ⟨rfl, rfl, rfl, rfl⟩ := h
                obtain ⟨c1, c2⟩ := allP_append.1 hc
                exact e_store ok hrep ho hx hH hg c1 c2.1 hn hp k1 k2 k3 k4
              · cases h
            · cases h
          · cases h
        · cases h
      · cases h
    · cases h
  · rename_i t len parts ho
    split at h
    · rename_i hs1
      split at h
      · rename_i e hu
        split at h
        · rename_i i xs hi hl
          split at h
          · rename_i hk
            simp only [Bool.and_eq_true, bne_iff_ne, decide_eq_true_eq] at hk
            simp only [Option.some.injEq, Prod.mk.injEq] at h
            obtain ⟨rfl, rfl, rfl, rfl⟩ := h
            exact e_lit_own ok hrep ho hu hi hk.1.1 hk.1.2 hk.2 hl
          · cases h
        · cases h
      · cases h
    · cases h
  · rename_i t x lo hi ho
    split at h
    · rename_i n e id off path l r hu hx hl hr
      split at h
      · rename_i hs1
        split at h
        · rename_i dd st hH
          split at h
          · rename_i C1 off' n' s xs hs2 hg
            split at h
            · rename_i hk
              simp only [Bool.and_eq_true, decide_eq_true_eq] at hk
              obtain ⟨⟨⟨rfl, k2⟩, k3⟩, k4⟩ := hk
              simp only [Option.some.injEq, Prod.mk.injEq] at h
              obtain ⟨rfl, rfl, rfl, rfl⟩ := h
              obtain ⟨c1, c2⟩ := allP_append.1 hc
              obtain ⟨c1, c3⟩ := allP_append.1 c1
              exact e_frz ok hrep ho hu hx hl hr hH hg c1 c3.1 k2 k3 k4 c2
            · cases h
          · cases h
        · cases h
      · cases h
    · cases h
  · rename_i c ho
    split at h
    · rename_i hcal
      split at h
      · rename_i x y t u hargs htys
        split at h
        · rename_i e id nn s xs hu hx
          split at h
          · rename_i i C1 ys hs1 s' e' zs hi hsrc hH
            split at h
            · rename_i hk
              simp only [Bool.and_eq_true, bne_iff_ne, decide_eq_true_eq] at hk
              obtain ⟨⟨⟨⟨k1, k2⟩, rfl⟩, rfl⟩, k5⟩ := hk
              simp only [Option.some.injEq, Prod.mk.injEq] at h
              obtain ⟨rfl, rfl, rfl, rfl⟩ := h
              obtain ⟨c1, rfl, c2, c3, _⟩ := allP_append.1 hc
              exact e_append_own ok hrep ho hcal hargs htys hu hx hi k1 k2 k5 (srcH_sound ok hrep hsrc c1) hH c2 c3
            · cases h
          · cases h
        · rename_i e s hu hx
          split at h
          · rename_i hs1 i ys hi hsrc
            split at h
            · rename_i hk
              simp only [Bool.and_eq_true, bne_iff_ne] at hk
              simp only [Option.some.injEq, Prod.mk.injEq] at h
              obtain ⟨rfl, rfl, rfl, rfl⟩ := h
              exact e_append_nil ok hrep ho hcal hargs htys hu hx hi hk.1 hk.2 hsrc hc.1 hc.2.1
            · cases h
          · cases h
        · cases h
      · cases h
    · rename_i hcal
      split at h
      · rename_i x y t u hargs htys
        split at h
        · rename_i e id off path s lo n hu hx
          split at h
          · rename_i ys dd hsrc hH
            split at h
            · rename_i C1 off' N s' xs hs1 hg
              split at h
              · rename_i dd' hp
                split at h
                · rename_i hk
                  simp only [Bool.and_eq_true, decide_eq_true_eq] at hk
                  obtain ⟨⟨rfl, k2⟩, k3⟩ := hk
                  simp only [Option.some.injEq, Prod.mk.injEq] at h
                  obtain ⟨rfl, rfl, rfl, rfl⟩ := h
                  obtain ⟨c1, c2⟩ := allP_append.1 hc
                  exact e_copy ok hrep ho hcal hargs htys hu hx hsrc hH hg c1 c2.1 hp k2 k3 c2.2.1 c2.2.2.1
                · cases h
              · cases h
            · cases h
          · cases h
        · cases h
      · cases h
    · rename_i f hcal
      split at h
      · rename_i g cap r Hc ids hs1 hf
        split at h
        · rename_i hk
          simp only [Bool.and_eq_true, beq_iff_eq, decide_eq_true_eq] at hk
          split at h
          · rename_i args' Hin r' Hb hargs hin hr hb
            simp only [Option.some.injEq, Prod.mk.injEq] at h
            obtain ⟨rfl, rfl, rfl, rfl⟩ := h
            exact call_sound ok hrep ho hcal hf hk.1.1.1 hk.1.1.2 hk.1.2 hk.2 hargs hin hr hb hc.1
          · cases h
        · cases h
      · cases h
    · cases h
  · cases h

theorem evOp_sound (ok : Ok σ) (hrep : RepT σ ts a) (h : evOp P o ts σ.H hs = some (C, d, H', hs')) (hc : AllP C) : OpOk P o a σ d H' := by
  unfold evOp at h
  split at h
  · rename_i C1 d1 hs1 h1
    simp only [Option.some.injEq, Prod.mk.injEq] at h
    obtain ⟨rfl, rfl, rfl, rfl⟩ := h
    exact evN_sound ok hrep h1 hc
  · split at h
    · rename_i C1 d1 hs1 h1
      simp only [Option.some.injEq, Prod.mk.injEq] at h
      obtain ⟨rfl, rfl, rfl, rfl⟩ := h
      have h2 := h1
      unfold evR at h2
      split at h2
      · rename_i t x ho
        exact r_load ok hrep ho h1 hc
      · cases h2
    · exact evE_sound ok hrep h hc

theorem repT_put {σ' : Sg} {v : Value} (hrep : RepT σ' ts a) (hd : repDV σ' d v) : RepT σ' (putT ts o.dst d) (a.put o.dst v) := by
  unfold putT Act.put
  cases o.dst with
  | none => exact hrep
  | some t =>
    refine ⟨by simpa using hrep.size, fun i e hi => ?_, hrep.defers⟩
    rw [List.getElem?_set] at hi
    split at hi
    · rename_i h
      subst h
      split at hi
      · rename_i hlt
        cases hi
        have : t < a.tmps.size := by rw [hrep.size]; exact hlt
        simpa [Array.getD, this] using hd
      · cases hi
    · rename_i h
      have := hrep.at_ i e hi
      simpa [Array.getD_eq_getD_getElem?, Array.getElem?_setIfInBounds, h] using this

theorem over_rep {v : Value} {σ' : Sg} {dst : Option Tmp} (hc : AllP (over dst d hs).1) (hd : repDV σ' d v) : repDV σ' (over dst d hs).2.1 v := by
  unfold over at hc ⊢
  split at hc
  · split at hc
    · have : d = _ := hc.1
      rename_i h
      rw [if_pos h, ← this]
      exact hd
    · rename_i h
      rw [if_neg h]
      exact hd
  · exact hd

theorem repDV_undef {σ' : Sg} : repDV σ' (.tup []) undef := by
  rw [repDV_one rfl]
  simp only [repD]
  exact ⟨#[], rfl, by simp [repVs]⟩

/-- one operation of a region -/
theorem evG_sound {ops : Array Oper} (ok : Ok σ) (hrep : RepT σ ts a) (h : evG P ops o ts σ.H hs = some (C, d, H', hs')) (hc : AllP C) (K : Act → World → Prop) (Q : Exit → Act → World → Prop)
    (hK : ∀ v σ', σ'.H = H' → To σ σ' → Ok σ' → RepT σ' (putT ts o.dst d) (a.put o.dst v) → K (a.put o.dst v) σ'.w) :
    if Region.wanted o (yielded ops a.tmps) then o.wp P a σ.w K Q else K (a.put o.dst undef) σ.w := by
  unfold evG at h
  split at h
  · rename_i hg
    simp only [Option.map_eq_some_iff, Prod.mk.injEq] at h
    obtain ⟨⟨C1, d1, H1, hs1⟩, h1, rfl, rfl, rfl, rfl⟩ := h
    obtain ⟨c1, c2⟩ := allP_append.1 hc
    have hw : Region.wanted o (yielded ops a.tmps) = true := by simp [Region.wanted, hg]
    rw [if_pos hw]
    exact evOp_sound ok hrep h1 c1 K Q fun v σ' e1 to ok' hd => hK v σ' e1 to ok' (repT_put (hrep.to to.leaf) (over_rep c2 hd))
  · rename_i j want hg
    split at h
    · rename_i t β hs1 ht
      have hy : yielded ops a.tmps j = some t := by
        unfold yielded
        simp only [Option.map_eq_some_iff] at ht
        obtain ⟨tt, h1, h2⟩ := ht
        rw [h1]
        simp only [Option.bind_some]
        have hlt : tt < ts.length := by
          rcases Nat.lt_or_ge tt ts.length with h3 | h3
          · exact h3
          · simp [List.getD, List.getElem?_eq_none h3] at h2
        have h3 := hrep.at_ tt (.p (.bool t)) (by
          have := List.getElem?_eq_getElem hlt
          simp only [List.getD, this, Option.getD_some] at h2
          rw [this, h2])
        have h4 := repDV_bool h3
        have hlt' : tt < a.tmps.size := by rw [hrep.size]; exact hlt
        rw [Array.getElem?_eq_getElem hlt']
        simp only [Array.getD, hlt', dif_pos] at h4
        have h5 : a.tmps[tt] = .bool t := by simpa using h4
        rw [h5]
      split at h
      · rename_i hb
        simp only [Option.map_eq_some_iff, Prod.mk.injEq] at h
        obtain ⟨⟨C1, d1, H1, hs2⟩, h1, rfl, rfl, rfl, rfl⟩ := h
        obtain ⟨c0, hc'⟩ := hc
        obtain ⟨c1, c2⟩ := allP_append.1 hc'
        have hw : Region.wanted o (yielded ops a.tmps) = true := by simp [Region.wanted, hg, hy, c0, hb]
        rw [if_pos hw]
        exact evOp_sound ok hrep h1 c1 K Q fun v σ' e1 to ok' hd => hK v σ' e1 to ok' (repT_put (hrep.to to.leaf) (over_rep c2 hd))
      · rename_i hb
        simp only [Option.some.injEq, Prod.mk.injEq] at h
        obtain ⟨rfl, rfl, rfl, rfl⟩ := h
        have c0 : t = β := hc.1
        have hw : Region.wanted o (yielded ops a.tmps) = false := by
          simp only [Region.wanted, hg, hy, c0]
          cases β <;> cases want <;> simp at hb ⊢
        rw [hw]
        exact hK undef σ rfl (To.refl σ) ok (repT_put hrep repDV_undef)
    · rename_i hs1 ht
      simp only [Option.some.injEq, Prod.mk.injEq] at h
      obtain ⟨rfl, rfl, rfl, rfl⟩ := h
      have hy : yielded ops a.tmps j = none := by
        unfold yielded
        simp only [Option.map_eq_some_iff] at ht
        obtain ⟨tt, h1, h2⟩ := ht
        rw [h1]
        simp only [Option.bind_some]
        have hlt : tt < ts.length := by
          rcases Nat.lt_or_ge tt ts.length with h3 | h3
          · exact h3
          · simp [List.getD, List.getElem?_eq_none h3] at h2
        have h3 := hrep.at_ tt (.tup []) (by
          have := List.getElem?_eq_getElem hlt
          simp only [List.getD, this, Option.getD_some] at h2
          rw [this, h2])
        have h4 := h3.2 rfl
        simp only [repD] at h4
        obtain ⟨cs, h5, h6⟩ := h4
        have hlt' : tt < a.tmps.size := by rw [hrep.size]; exact hlt
        rw [Array.getElem?_eq_getElem hlt']
        simp only [Array.getD, hlt', dif_pos] at h5
        have h7 : a.tmps[tt] = .tuple cs := by simpa using h5
        rw [h7]
      have hw : Region.wanted o (yielded ops a.tmps) = false := by
        simp only [Region.wanted, hg, hy]
        cases want <;> rfl
      rw [hw]
      exact hK undef σ rfl (To.refl σ) ok (repT_put hrep repDV_undef)
    · cases h

theorem evOps_sound {ops : Array Oper} (Q : Exit → Act → World → Prop) {ts' : List Dv} : ∀ (l : List Oper) (k : Nat) (ts : List Dv) (σ : Sg) (a : Act) (hs hs' : List Hint) (C : List Prop) (H' : List Ent),
    (∀ j, l[j]? = ops[k + j]?) → Ok σ → RepT σ ts a → evOps P ops l ts σ.H hs = some (C, ts', H', hs') → AllP C →
    (∀ a' σ', σ'.H = H' → To σ σ' → Ok σ' → RepT σ' ts' a' → Q .normal a' σ'.w) → wpOps P ops Q (List.range' k l.length) a σ.w
  | [], k, ts, σ, a, hs, hs', C, H', _, ok, hrep, h, hc, hQ => by
    simp only [evOps, Option.some.injEq, Prod.mk.injEq] at h
    obtain ⟨rfl, rfl, rfl, rfl⟩ := h
    exact hQ a σ rfl (To.refl σ) ok hrep
  | o :: l, k, ts, σ, a, hs, hs', C, H', hl, ok, hrep, h, hc, hQ => by
    simp only [evOps] at h
    split at h
    · rename_i C1 d1 H1 hs1 h1
      split at h
      · rename_i C2 ts2 H2 hs2 h2
        simp only [Option.some.injEq, Prod.mk.injEq] at h
        obtain ⟨rfl, rfl, rfl, rfl⟩ := h
        obtain ⟨c1, c2⟩ := allP_append.1 hc
        have h0 : ops[k]? = some o := by simpa using (hl 0).symm
        simp only [List.length_cons, List.range'_succ, wpOps, h0]
        have key := evG_sound (P := P) (ops := ops) ok hrep h1 c1 (wpOps P ops Q (List.range' (k + 1) l.length)) Q (fun v σ1 e1 to1 ok1 hrep1 => by
          subst e1
          exact evOps_sound Q l (k + 1) _ σ1 _ hs1 _ C2 _ (fun j => by have := hl (j + 1); simpa [Nat.add_assoc, Nat.add_comm 1 j] using this) ok1 hrep1 h2 c2
            (fun a' σ' e2 to2 ok2 hrep2 => hQ a' σ' e2 (to1.trans to2) ok2 hrep2))
        by_cases hw : Region.wanted o (yielded ops a.tmps) = true
        · rw [if_pos hw] at key ⊢
          exact .inl key
        · rw [if_neg hw] at key ⊢
          exact key
      · cases h
    · cases h
end
end Go.Ev
