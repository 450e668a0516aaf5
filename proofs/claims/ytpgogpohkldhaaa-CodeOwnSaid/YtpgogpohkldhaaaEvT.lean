/- The evaluator, part T: why it is right: each operation. -/
import Derived.Test.YtpgogpohkldhaaaEvS
import Derived.Test.YtpgogpohkldhaaaEvE2
set_option linter.unusedVariables false
set_option linter.unusedSimpArgs false
namespace Go.Ev

section
variable {P : Program} {o : Oper} {a : Act} {σ : Sg} {ts : List Dv} {hs hs' : List Hint} {C : List Prop} {d : Dv}

theorem run_value {v : Value} {w : World} {s : Sem Value} (hs : (execOp a.eval o) = (do pure (.value (← s)))) (h : s.run P w = .ok v w) : (execOp a.eval o).run P w = .ok (.value v) w := by
  rw [hs]; simp [h]

theorem putBack_nil (H : List Ent) : putBack H [] [] = H := by simp [putBack]

theorem rn_none_eq : (toIds [] : Nat → Option Nat) = fun _ => none := by
  funext i; simp [toIds]

mutual
theorem rn_none_id {f : Nat → Option Nat} : ∀ (x y : Dv), x.rn (fun _ => none) = some y → x.rn f = some x
  | .p x, _, _ => rfl
  | .elem x, _, _ => rfl
  | .ref _ _ _, _, h => by simp [Dv.rn] at h
  | .own _ _ _ _, _, h => by simp [Dv.rn] at h
  | .view _ _ _ _ _ _, _, h => by simp [Dv.rn] at h
  | .agg xs, _, h => by
    simp only [Dv.rn, Option.map_eq_some_iff] at h ⊢
    obtain ⟨ys, h1, _⟩ := h
    exact ⟨xs, rns_none_id xs ys h1, rfl⟩
  | .arr n s xs, _, h => by
    simp only [Dv.rn, Option.map_eq_some_iff] at h ⊢
    obtain ⟨ys, h1, _⟩ := h
    exact ⟨xs, rns_none_id xs ys h1, rfl⟩
  | .fn g xs, _, h => by
    simp only [Dv.rn, Option.map_eq_some_iff] at h ⊢
    obtain ⟨ys, h1, _⟩ := h
    exact ⟨xs, rns_none_id xs ys h1, rfl⟩
  | .iface t x, _, h => by
    simp only [Dv.rn, Option.map_eq_some_iff] at h ⊢
    obtain ⟨y, h1, _⟩ := h
    exact ⟨x, rn_none_id x y h1, rfl⟩
  | .tup xs, _, h => by
    simp only [Dv.rn, Option.map_eq_some_iff] at h ⊢
    obtain ⟨ys, h1, _⟩ := h
    exact ⟨xs, rns_none_id xs ys h1, rfl⟩
  | .mp _, _, h => by simp [Dv.rn] at h
  | .junk, _, _ => rfl
theorem rns_none_id {f : Nat → Option Nat} : ∀ (x y : List Dv), Dv.rns (fun _ => none) x = some y → Dv.rns f x = some x
  | [], _, _ => rfl
  | x :: xs, _, h => by
    simp only [Dv.rns] at h
    split at h
    · rename_i y ys h1 h2
      simp [Dv.rns, rn_none_id x y h1, rns_none_id xs ys h2]
    · cases h
end

theorem evN_sound (ok : Ok σ) (hrep : RepT σ ts a) (h : evN P o ts hs = some (C, d, hs')) (hc : AllP C) : OpOk P o a σ d σ.H := by
  have h0 := h
  unfold evN at h
  split at h
  · rename_i x ho
    simp only [Option.some.injEq, Prod.mk.injEq] at h
    obtain ⟨rfl, rfl, rfl⟩ := h
    exact opOk_value (v := a.eval x) ok (by simp [execOp, ho]) (arg_rep hrep _ _)
  · rename_i x ho
    have main : d = argD P ts o.type x → OpOk P o a σ d σ.H := fun e => by
      subst e
      exact opOk_value (v := a.eval x) ok (by simp [execOp, ho]) (arg_rep hrep _ _)
    split at h
    · split at h
      · cases h
      · simp only [Option.some.injEq, Prod.mk.injEq] at h
        exact main h.2.1.symm
    · simp only [Option.some.injEq, Prod.mk.injEq] at h
      exact main h.2.1.symm
  · rename_i c x y ho
    split at h
    · rename_i t β hs1 hcv
      simp only [Option.some.injEq, Prod.mk.injEq] at h
      obtain ⟨rfl, rfl, rfl⟩ := h
      have hb := arg_rep (P := P) hrep 0 c
      rw [hcv] at hb
      have hb' := repDV_bool hb
      have ht : t = β := hc.1
      subst ht
      refine opOk_value (v := if t then a.eval x else a.eval y) ok (by simp [execOp, ho, hb', asBool]) ?_
      cases t
      · exact arg_rep hrep _ _
      · exact arg_rep hrep _ _
    · cases h
  · rename_i x ho
    split at h
    · rename_i i f p hx
      simp only [Option.some.injEq, Prod.mk.injEq] at h
      obtain ⟨rfl, rfl, rfl⟩ := h
      have hv := arg_rep (P := P) hrep 0 x
      rw [hx] at hv
      obtain ⟨b, h1, h2, h3⟩ := ref_one hv
      exact opOk_value (v := a.eval x) ok (by simp [execOp, ho, h3]) hv
    · rename_i y hx
      simp only [Option.some.injEq, Prod.mk.injEq] at h
      obtain ⟨rfl, rfl, rfl⟩ := h
      have hv := arg_rep (P := P) hrep 0 x
      rw [hx] at hv
      obtain ⟨b, o', us, h3, _⟩ := elem_one hv
      exact opOk_value (v := a.eval x) ok (by simp [execOp, ho, h3]) hv
    · rename_i f cap hx
      simp only [Option.some.injEq, Prod.mk.injEq] at h
      obtain ⟨rfl, rfl, rfl⟩ := h
      have hv := arg_rep (P := P) hrep 0 x
      rw [hx] at hv
      obtain ⟨cs, h3, _⟩ := fn_one hv
      exact opOk_value (v := a.eval x) ok (by simp [execOp, ho, h3]) hv
    · cases h
  · rename_i op t x y yt ho
    obtain ⟨v, h1, h2, h3⟩ := evBin_sound (P := P) h hc (arg_rep hrep t x) (arg_rep hrep yt y) x y
    exact opOk_value ok (by simp [execOp, ho, h1, h2]) h3
  · rename_i t x ho
    split at h
    · rename_i b hx
      simp only [Option.some.injEq, Prod.mk.injEq] at h
      obtain ⟨rfl, rfl, rfl⟩ := h
      have hv := arg_rep (P := P) hrep 0 x
      rw [hx] at hv
      exact opOk_value (v := .bool (!b)) ok (by simp [execOp, ho, repDV_bool hv, Op.unary]) (repDV_bool_mk _)
    · cases h
  · rename_i t x ho
    split at h
    · rename_i k n hx
      have hv := arg_rep (P := P) hrep 0 x
      rw [hx] at hv
      exact opOk_value ok (by simp [execOp, ho, repDV_int hv, Op.unary, Op.intArith]) (arith_sound h hc σ)
    · cases h
  · rename_i src dst x ho
    split at h
    · rename_i d1 k k' n hs1 hd1 hx
      have hv := arg_rep (P := P) hrep src x
      rw [hx] at hv
      refine opOk_value ok ?_ (arith_sound h hc σ)
      simp [execOp, ho, repDV_int hv, convert, run_underlying hs1, run_underlying hd1, Conv.intToInt]
    · cases h
  · rename_i f first captured ho
    split at h
    · rename_i hf
      simp only [Option.some.injEq, Prod.mk.injEq] at h
      obtain ⟨rfl, rfl, rfl⟩ := h
      have : first = #[] := by simpa using hf
      subst this
      refine opOk_value (v := .func (.func f) #[] (captured.map a.eval)) ok (by simp [execOp, ho, Instr.makeFunc]) ?_
      rw [repDV_one rfl]
      simp only [repD]
      exact ⟨_, rfl, by rw [Array.toList_map]; exact repVs_of _ _ (fun x => arg_rep hrep 0 x) _⟩
    · cases h
  · rename_i t x i ho
    simp only [Option.map_eq_some_iff, Prod.mk.injEq] at h
    obtain ⟨d1, h1, rfl, rfl, rfl⟩ := h
    obtain ⟨u, h2, h3⟩ := fieldOf_sound h1 (arg_rep (P := P) hrep t x)
    exact opOk_value ok (by simp [execOp, ho, h2]) h3
  · rename_i t x i ho
    have hv := arg_rep (P := P) hrep 0 x
    split at h
    · rename_i fs id off path hu hx
      rw [hx] at hv
      split at h
      · rename_i f hf
        split at h
        · rename_i hk
          simp only [Bool.and_eq_true, bne_iff_ne] at hk
          simp only [Option.some.injEq, Prod.mk.injEq] at h
          obtain ⟨rfl, rfl, rfl⟩ := h
          obtain ⟨b, h1, h2, h3⟩ := ref_one hv
          refine opOk_value (v := .pointer (some ⟨b, off + f.offset, none⟩)) ok ?_ ?_
          · have hs := sizeOf_run (P := P) hk.2 σ.w
            have hr : (fieldPlace ⟨b, off, none⟩ f).run P σ.w = .ok ⟨b, off + f.offset, none⟩ σ.w := by
              unfold fieldPlace
              rw [Sem.run_bind, hs]
              simp only [Result.andThen_ok, hk.1, if_false, Sem.run_pure, Addr.add_mk]
            simp [execOp, ho, h3, Instr.fieldAt, run_underlying hu, hf, Instr.sureAddr, hr]
          · rw [repDV_one rfl]
            simp only [repD]
            exact ⟨b, h1, h2, rfl⟩
        · cases h
      · cases h
    · rename_i fs y hu hx
      rw [hx] at hv
      split at h
      · rename_i z hz
        simp only [Option.some.injEq, Prod.mk.injEq] at h
        obtain ⟨rfl, rfl, rfl⟩ := h
        obtain ⟨b, off, us, h1, h2, h3⟩ := elem_one hv
        unfold fieldOf at hz
        rw [hu] at hz
        split at hz
        · rename_i fs' xs hfs hxs
          cases hfs
          cases hxs
          split at hz
          · rename_i y' hy
            split at hz
            · rename_i hok
              cases hz
              unfold fieldOk at hok
              split at hok
              · rename_i f hf
                simp only [Bool.and_eq_true, beq_iff_eq, bne_iff_ne] at hok
                obtain ⟨⟨⟨⟨⟨k1, k2⟩, k3⟩, k4⟩, k5⟩, k6⟩ := hok
                simp only [repC] at h2
                obtain ⟨p1, p2, p3, rfl, e1, e2, _⟩ := repCs_at h2 hy
                refine opOk_value (v := .pointer (some ⟨b, off + f.offset, none⟩)) ok ?_ ?_
                · have hs := sizeOf_run (P := P) k3 σ.w
                  have hr : (fieldPlace ⟨b, off, none⟩ f).run P σ.w = .ok ⟨b, off + f.offset, none⟩ σ.w := by
                    unfold fieldPlace
                    rw [Sem.run_bind, hs]
                    simp only [Result.andThen_ok, k2, k6, if_false, Sem.run_pure, Addr.add_mk]
                  simp [execOp, ho, h1, Instr.fieldAt, run_underlying hu, hf, Instr.sureAddr, hr]
                · rw [repDV_one rfl]
                  simp only [repD]
                  refine ⟨b, _, p2, rfl, e2, ?_⟩
                  have := (Cells.append (Cells.append h3).2).1
                  rw [e1, ← k1] at this
                  exact this
              · cases hok
            · cases hz
          · cases hz
        · rename_i hxs
          cases hxs
        · cases hz
      · cases h
    · cases h
  · rename_i t x ix ho
    exact n_indexAddr ok hrep ho h0 hc
  · rename_i t x ix ho
    have hv := arg_rep (P := P) hrep t x
    have hi := arg_rep (P := P) hrep 0 ix
    split at h
    · rename_i n e n' s xs k i hu hx hix
      rw [hx] at hv
      rw [hix] at hi
      split at h
      · rename_i y hs1
        split at h
        · rename_i hk
          simp only [Bool.and_eq_true, decide_eq_true_eq, beq_iff_eq, bne_iff_ne] at hk
          obtain ⟨⟨⟨⟨⟨rfl, k1⟩, k2⟩, k3⟩, k4⟩, k5⟩ := hk
          simp only [Option.some.injEq, Prod.mk.injEq] at h
          obtain ⟨rfl, rfl, rfl⟩ := h
          obtain ⟨c1, c2, _⟩ := hc
          obtain ⟨cs, hcs, hr⟩ := (repDV_agg rfl).1 hv
          simp only [repD, repC] at hr
          obtain ⟨r1, r2, r3⟩ := hr
          obtain ⟨p1, p2, p3, ecs, e1, e2, _⟩ := repCs_at r3 c2
          have hlt : i.toNat < xs.length := (List.getElem?_eq_some_iff.1 c2).1
          have hys : y.size = s := r2 y (List.mem_of_getElem? c2)
          have hpl : p1.length = i.toNat * s := by
            rw [e1, sizes_all (allSz_take r2 _), List.length_take, Nat.min_eq_left (Nat.le_of_lt hlt)]
          obtain ⟨v, h1, h2⟩ := part_run (P := P) (σ := σ) (t := e) (d := .p y) ecs (by simpa [repD] using e2) (by rw [k1]; exact hys.symm) k4 k3 k2 (by show y.size ≠ 0; rw [hys]; exact k5)
          refine opOk_value ok ?_ h2
          have hb : 0 ≤ i ∧ i < (n : Int) := ⟨c1, by omega⟩
          rw [hpl, ← k1] at h1
          simp [execOp, ho, hcs, repDV_int hi, Instr.index, asIntOf, run_underlying hu, hb, sizeOf_run k4, h1]
        · cases h
      · cases h
    · cases h
  · rename_i t x lo hi ho
    exact n_slice ok hrep ho h0 hc
  · rename_i x i ho
    split at h
    · rename_i ds hx
      simp only [Option.map_eq_some_iff, Prod.mk.injEq] at h
      obtain ⟨d1, h1, rfl, rfl, rfl⟩ := h
      have hv := arg_rep (P := P) hrep 0 x
      rw [hx, repDV_one rfl] at hv
      simp only [repD, List.cons.injEq, and_true] at hv
      obtain ⟨cs, hv, hr⟩ := hv
      obtain ⟨v, h2, h3⟩ := repVs_at hr h1
      have h2' : cs[i]? = some v := by simpa using h2
      exact opOk_value ok (by simp [execOp, ho, hv, Instr.extract, h2']) h3
    · cases h
  · rename_i t x ho
    split at h
    · rename_i y hx
      split at h
      · rename_i hk
        simp only [Bool.and_eq_true, beq_iff_eq, decide_eq_true_eq] at hk
        obtain ⟨⟨⟨k1, k2⟩, k3⟩, k4⟩ := hk
        simp only [Option.some.injEq, Prod.mk.injEq] at h
        obtain ⟨rfl, rfl, rfl⟩ := h
        have hv := arg_rep (P := P) hrep 0 x
        rw [hx] at hv
        obtain ⟨b, off, us, h1, h2, h3⟩ := elem_one hv
        obtain ⟨v, h4, h5⟩ := loadVar_run (P := P) (σ := σ) (d := .p y) (by simpa [repD] using h2) (fun j u hu => (h3 j u hu).1) k1 k4 k3 k2
        exact opOk_value ok (by simp [execOp, ho, h1, Instr.loadAt, Instr.sureAddr, h4]) h5
      · cases h
    · cases h
  · rename_i t parts ho
    exact n_build ok hrep ho h0
  · rename_i c ho
    split at h
    · rename_i hcal
      split at h
      · rename_i x t hargs htys
        have hv := arg_rep (P := P) hrep t x
        split at h
        · rename_i e nn s xs hu hx
          rw [hx] at hv
          simp only [Option.some.injEq, Prod.mk.injEq] at h
          obtain ⟨rfl, rfl, rfl⟩ := h
          obtain ⟨_, A, cp, h1, _⟩ := repDV_sl hv
          exact opOk_value ok (len_exec ho hcal hargs htys (by rw [h1]; simp [Builtin.len_, run_underlying hu]; rfl)) (repDV_int_mk _ _)
        · rename_i e id nn s xs hu hx
          rw [hx] at hv
          simp only [Option.some.injEq, Prod.mk.injEq] at h
          obtain ⟨rfl, rfl, rfl⟩ := h
          obtain ⟨_, A, cp, h1, _⟩ := repDV_own hv
          exact opOk_value ok (len_exec ho hcal hargs htys (by rw [h1]; simp [Builtin.len_, run_underlying hu]; rfl)) (repDV_int_mk _ _)
        · rename_i e id off path s lo n hu hx
          rw [hx] at hv
          simp only [Option.some.injEq, Prod.mk.injEq] at h
          obtain ⟨rfl, rfl, rfl⟩ := h
          obtain ⟨b, cp, aa, _, _, h1, _⟩ := view_one hv
          exact opOk_value ok (len_exec ho hcal hargs htys (by rw [h1]; simp [Builtin.len_, run_underlying hu]; rfl)) (repDV_int_mk _ _)
        · rename_i dd n e hu
          simp only [Option.some.injEq, Prod.mk.injEq] at h
          obtain ⟨rfl, rfl, rfl⟩ := h
          exact opOk_value ok (len_exec ho hcal hargs htys (by simp [Builtin.len_, run_underlying hu]; rfl)) (repDV_int_mk _ _)
        · rename_i s hu hx
          rw [hx] at hv
          simp only [Option.some.injEq, Prod.mk.injEq] at h
          obtain ⟨rfl, rfl, rfl⟩ := h
          exact opOk_value ok (len_exec ho hcal hargs htys (by rw [repDV_str hv]; simp [Builtin.len_, run_underlying hu]; rfl)) (repDV_int_mk _ _)
        · cases h
      · cases h
    · rename_i hcal
      split at h
      · rename_i x y t u hs1 hargs htys
        split at h
        · rename_i e s hu hx
          split at h
          · rename_i i ys hi hsrc
            split at h
            · rename_i hk
              simp only [Bool.and_eq_true, bne_iff_ne] at hk
              simp only [Option.some.injEq, Prod.mk.injEq] at h
              obtain ⟨rfl, rfl, rfl⟩ := h
              exact n_append_snap ok hrep ho hcal hargs htys hu hx hi hk.1 hk.2 hsrc hc.1 hc.2.1
            · cases h
          · cases h
        · cases h
      · cases h
    · rename_i f hcal
      split at h
      · rename_i g cap r hs1 hf
        split at h
        · rename_i hk
          simp only [Bool.and_eq_true, beq_iff_eq] at hk
          split at h
          · rename_i args' r1 hargs hr
            simp only [Option.some.injEq, Prod.mk.injEq] at h
            obtain ⟨rfl, rfl, rfl⟩ := h
            have := call_sound (P := P) (ids := []) (Hin := []) (H' := []) (Hb := []) (r := r) (r' := r) ok hrep ho hcal hf hk.1 hk.2 rfl (Nat.le_refl _) (by rw [rn_none_eq]; exact hargs) rfl
              (rn_none_id r r1 hr) rfl hc.1
            rwa [putBack_nil] at this
          · cases h
        · cases h
      · cases h
    · cases h
  · rename_i t len parts ho
    split at h
    · rename_i hs1
      split at h
      · rename_i e hu
        split at h
        · rename_i i xs hi hl
          split at h
          · rename_i hk
            simp only [Bool.and_eq_true, bne_iff_ne, decide_eq_true_eq] at hk
            simp only [Option.some.injEq, Prod.mk.injEq] at h
            obtain ⟨rfl, rfl, rfl⟩ := h
            exact n_lit_snap ok hrep ho hu hi hk.1.1 hk.1.2 hk.2 hl
          · cases h
        · cases h
      · cases h
    · cases h
  · cases h
end
end Go.Ev
