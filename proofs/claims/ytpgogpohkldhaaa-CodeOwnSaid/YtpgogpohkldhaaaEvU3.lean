/- The evaluator, part U3: why it is right: a drawn region as a whole. -/
import Derived.Test.YtpgogpohkldhaaaEvU2
set_option linter.unusedVariables false
set_option linter.unusedSimpArgs false
namespace Go.Ev

def tsTo (ts : List Dv) (l : List (Option Tmp × Dv)) : List Dv := l.foldl (fun ts q => putT ts q.1 q.2) ts

section
variable {P : Program} {ops : Array Oper}

theorem evD_spec : ∀ (l : List Oper) (ts : List Dv) (H : List Ent) (hs : List Hint) (C : List Prop) (rs : List Rec) (ts' : List Dv) (H' : List Ent) (hs' : List Hint), evD P ops l ts H hs = some (C, rs, ts', H', hs') → AllP C →
    rs.length = l.length ∧ ts' = tsTo ts ((l.zip rs).map fun q => (q.1.dst, q.2.d)) ∧ (l = [] → H' = H) ∧
    ∀ (i : Nat) (o : Oper), l[i]? = some o → ∃ r, rs[i]? = some r ∧ AllP r.C ∧ evG P ops o (maskFrom (looks ops o) 0 (tsTo ts (((l.zip rs).take i).map fun q => (q.1.dst, q.2.d)))) r.H r.hs = some (r.C, r.d, r.H', r.hs') ∧
      r.cls = clsOf P o (maskFrom (looks ops o) 0 (tsTo ts (((l.zip rs).take i).map fun q => (q.1.dst, q.2.d)))) r.H r.hs ∧ (i = 0 → r.H = H) ∧ (∀ r2, rs[i + 1]? = some r2 → r2.H = r.H') ∧ (i + 1 = l.length → H' = r.H')
  | [], ts, H, hs, C, rs, ts', H', hs', h, hc => by
    simp only [evD, Option.some.injEq, Prod.mk.injEq] at h
    obtain ⟨rfl, rfl, rfl, rfl, rfl⟩ := h
    exact ⟨rfl, rfl, fun _ => rfl, fun i o hi => by simp at hi⟩
  | o :: l, ts, H, hs, C, rs, ts', H', hs', h, hc => by
    simp only [evD] at h
    split at h
    · rename_i C1 d1 H1 hs1 h1
      split at h
      · rename_i C2 rs2 ts2 H2 hs2 h2
        simp only [Option.some.injEq, Prod.mk.injEq] at h
        obtain ⟨rfl, rfl, rfl, rfl, rfl⟩ := h
        obtain ⟨c1, c2⟩ := allP_append.1 hc
        obtain ⟨k1, k2, k3, k4⟩ := evD_spec l _ _ _ _ _ _ _ _ h2 c2
        refine ⟨by simp [k1], by rw [k2]; rfl, by simp, fun i o' hi => ?_⟩
        cases i with
        | zero =>
          simp only [List.getElem?_cons_zero, Option.some.injEq] at hi
          subst hi
          refine ⟨_, rfl, c1, h1, rfl, fun _ => rfl, fun r2 hr2 => ?_, fun hl => ?_⟩
          · simp only [List.getElem?_cons_succ] at hr2
            cases l with
            | nil =>
              have : rs2 = [] := List.eq_nil_of_length_eq_zero (by simpa using k1)
              subst this
              simp at hr2
            | cons o2 l2 =>
              obtain ⟨r, j1, _, _, _, j2, _⟩ := k4 0 o2 rfl
              rw [hr2] at j1
              cases j1
              exact j2 rfl
          · have : l = [] := List.eq_nil_of_length_eq_zero (by simpa using hl.symm)
            exact k3 this
        | succ i =>
          simp only [List.getElem?_cons_succ] at hi
          obtain ⟨r, j1, j2, j3, j4, j5, j6, j7⟩ := k4 i o' hi
          refine ⟨r, by simpa using j1, j2, j3, j4, fun h0 => by omega, fun r2 hr2 => j6 r2 (by simpa using hr2), fun hl => j7 (by simpa using hl)⟩
      · cases h
    · cases h

theorem tsTo_snoc (ts : List Dv) (l : List (Option Tmp × Dv)) (q : Option Tmp × Dv) : tsTo ts (l ++ [q]) = putT (tsTo ts l) q.1 q.2 := by simp [tsTo]

/-- how many of the first k are not listed -/
def unl (X : Nat → Bool) : Nat → Nat
  | 0 => 0
  | k + 1 => unl X k + (if X k then 0 else 1)
theorem unl_all {X : Nat → Bool} : ∀ {k : Nat}, unl X k = 0 → ∀ j, j < k → X j = true
  | 0, _, j, h => by omega
  | k + 1, h, j, hj => by
    simp only [unl] at h
    by_cases hk : j = k
    · subst hk
      cases hx : X j with
      | true => rfl
      | false => simp [hx] at h
    · exact unl_all (k := k) (by omega) j (by omega)
theorem unl_le {X : Nat → Bool} : ∀ {k : Nat}, unl X k ≤ k
  | 0 => Nat.le_refl _
  | k + 1 => by
    have := unl_le (X := X) (k := k)
    simp only [unl]
    split <;> omega
theorem unl_same {X Y : Nat → Bool} : ∀ {k : Nat}, (∀ j, j < k → Y j = X j) → unl Y k = unl X k
  | 0, _ => rfl
  | k + 1, h => by
    simp only [unl]
    rw [unl_same (k := k) (fun j hj => h j (by omega)), h k (by omega)]
theorem unl_less {X Y : Nat → Bool} {i : Nat} (hi : X i = false) : ∀ {k : Nat}, i < k → (∀ j, j < k → Y j = (X j || decide (j = i))) → unl Y k + 1 = unl X k
  | 0, h, _ => by omega
  | k + 1, h, hY => by
    simp only [unl]
    by_cases hk : i = k
    · subst hk
      rw [unl_same (X := X) (Y := Y) (fun j hj => by
        rw [hY j (by omega)]
        have : ¬ j = i := by omega
        simp [this]), hY i (by omega), hi]
      simp
    · have := unl_less hi (k := k) (by omega) (fun j hj => hY j (by omega))
      have hne : ¬ k = i := fun h => hk h.symm
      rw [hY k (by omega)]
      simp only [hne, decide_false, Bool.or_false]
      omega

theorem ready_back : ∀ (l : List Oper) (i : Nat), edgesBack l i = true → ∀ (j : Nat) (o : Oper), l[j]? = some o → ∀ e, e ∈ o.after → Region.binds .any e = true → e.on < i + j
  | [], i, _, j, o, ho, _, _, _ => by simp at ho
  | o :: l, i, h, j, o', ho, e, he, hb => by
    simp only [edgesBack, Bool.and_eq_true, List.all_eq_true] at h
    cases j with
    | zero =>
      simp only [List.getElem?_cons_zero, Option.some.injEq] at ho
      subst ho
      have := h.1 e (by simpa using he)
      simpa [hb] using this
    | succ j =>
      simp only [List.getElem?_cons_succ] at ho
      have := ready_back l (i + 1) h.2 j o' ho e he hb
      omega

theorem maskFrom_len (keep : List Nat) : ∀ (l : List Dv) (k : Nat), (maskFrom keep k l).length = l.length
  | [], k => rfl
  | x :: l, k => by simp [maskFrom, maskFrom_len keep l]

/-- what was masked is still there -/
theorem unmask {σ : Sg} {a : Act} {ts ms : List Dv} {dst : Option Tmp} {d : Dv} {v : Value} (hl : ms.length = ts.length) (h1 : RepT σ ts a) (h2 : RepT σ (putT ms dst d) (a.put dst v)) : RepT σ (putT ts dst d) (a.put dst v) := by
  unfold putT Act.put at *
  cases dst with
  | none => exact h1
  | some t =>
    refine ⟨by simpa using h1.size, fun i e hi => ?_, h1.defers⟩
    by_cases hit : t = i
    · subst hit
      refine h2.at_ t e ?_
      simp only [List.getElem?_set] at hi ⊢
      rw [hl]
      exact hi
    · rw [List.getElem?_set, if_neg hit] at hi
      have := h1.at_ i e hi
      simpa [Array.getD_eq_getD_getElem?, Array.getElem?_setIfInBounds, hit] using this

theorem evDraw_sound {σ : Sg} {a : Act} {ts : List Dv} {hs hs' : List Hint} {C : List Prop} {ts' : List Dv} {H' : List Ent} {id : Nat} (ok : Ok σ) (hrep : RepT σ ts a) (h : evDraw P ops ts σ.H hs = some (C, ts', H', hs')) (hc : AllP C)
    (Q : Exit → Act → World → Prop) (hQ : ∀ a' σ', σ'.H = H' → To σ σ' → Ok σ' → RepT σ' ts' a' → Q .normal a' σ'.w) : (Code.region id ops true).wp P Q a σ.w := by
  unfold evDraw at h
  split at h
  · rename_i hm
    split at h
    · rename_i C1 rs ts1 H1 hs1 hev
      split at h
      · rename_i hdr
        simp only [Option.some.injEq, Prod.mk.injEq] at h
        obtain ⟨rfl, rfl, rfl, rfl⟩ := h
        obtain ⟨hlen, hts', hnil, hspec⟩ := evD_spec _ _ _ _ _ _ _ _ _ hev hc
        -- names
        let n := ops.size
        let dst : Nat → Option Tmp := fun i => dstOf ops.toList i
        let D : Nat → Dv := fun i => ((rs[i]?).map (·.d)).getD .junk
        let cls : Nat → Nat := fun i => (rs.map (·.cls)).getD i 0
        let A : List Nat := ancOf ops.toList
        have hn : ops.toList.length = n := by simp [n]
        have hrl : rs.length = n := by rw [hlen, hn]
        unfold drawOk at hdr
        simp only [Bool.and_eq_true] at hdr
        obtain ⟨⟨⟨⟨⟨_, hback⟩, hanc⟩, huniq⟩, hlook⟩, hcls⟩ := hdr
        have hopl : ∀ (i : Nat), ops.toList[i]? = ops[i]? := fun i => by simp
        have hA : ∀ i o, ops[i]? = some o → A.getD i 0 = ancStep A i o := by
          intro i o ho
          have hi : i < n := (Array.getElem?_eq_some_iff.1 ho).1
          have := List.all_eq_true.1 hanc i (List.mem_range.2 (by rw [hn]; exact hi))
          rw [hopl, ho] at this
          simpa using this
        have hu : ∀ i j, i < n → j < n → dst i ≠ none → dst i = dst j → i = j := by
          intro i j hi hj h1 h2
          have := List.all_eq_true.1 (List.all_eq_true.1 huniq i (List.mem_range.2 (by rw [hn]; exact hi))) j (List.mem_range.2 (by rw [hn]; exact hj))
          simp only [Bool.or_eq_true, beq_iff_eq, Bool.not_eq_true', beq_eq_false_iff_ne, ne_eq] at this
          rcases this with (h3 | h3) | h3
          · exact h3
          · exact absurd h3 h1
          · exact absurd h2 h3
        have hL : ∀ i o j t, ops[i]? = some o → j < n → dst j = some t → t ∈ looks ops o → i ≠ j → (if j < i then (A.getD i 0).testBit j else (A.getD j 0).testBit i) = true := by
          intro i o j t ho hj hd ht hne
          have hi : i < n := (Array.getElem?_eq_some_iff.1 ho).1
          have h1 := List.all_eq_true.1 hlook i (List.mem_range.2 (by rw [hn]; exact hi))
          rw [hopl, ho] at h1
          have h2 := List.all_eq_true.1 h1 j (List.mem_range.2 (by rw [hn]; exact hj))
          have hd' : dstOf ops.toList j = some t := hd
          rw [hd'] at h2
          have hk : (looks ops o).contains t = true := by simpa using ht
          simp only [hk, Bool.or_eq_true, beq_iff_eq, Bool.not_true, Bool.or_false] at h2
          rcases h2 with h2 | h2
          · exact absurd h2 hne
          · exact h2
        have hE : ∀ i j, i < n → j < n → cls i ≠ 0 → cls j = 2 → i ≠ j → (if j < i then (A.getD i 0).testBit j else (A.getD j 0).testBit i) = true := by
          intro i j hi hj h1 h2 hne
          have h3 := List.all_eq_true.1 hcls i (List.mem_range.2 (by rw [hn]; exact hi))
          simp only [Bool.or_eq_true, beq_iff_eq] at h3
          rcases h3 with h3 | h3
          · exact absurd h3 h1
          · have h4 := List.all_eq_true.1 h3 j (List.mem_range.2 (by rw [hn]; exact hj))
            have h2' : (List.map (fun x => x.cls) rs).getD j 0 = 2 := h2
            rw [h2'] at h4
            simp only [Bool.or_eq_true, beq_iff_eq, beq_self_eq_true, Bool.not_true] at h4
            rcases h4 with h4 | h4
            · exfalso
              rcases h4 with h4 | h4
              · exact hne h4
              · cases h4
            · exact h4
        -- the slots, in the text's order
        have hTS : ∀ i, i ≤ n → tsTo ts (((ops.toList.zip rs).take i).map fun q => (q.1.dst, q.2.d)) = tsX n dst D ts (fun j => decide (j < i)) := by
          intro i
          induction i with
          | zero =>
            intro _
            rw [tsX_empty (fun j _ => by simp)]
            simp [tsTo]
          | succ i ih =>
            intro hi
            have h1 : i < ops.toList.length := by rw [hn]; omega
            have h2 : i < rs.length := by rw [hrl]; omega
            have hz : (ops.toList.zip rs)[i]? = some (ops.toList[i], rs[i]) := by
              rw [List.getElem?_zip_eq_some]
              exact ⟨List.getElem?_eq_getElem h1, List.getElem?_eq_getElem h2⟩
            rw [List.take_add_one, hz]
            simp only [Option.toList_some, List.map_append, List.map_cons, List.map_nil]
            rw [tsTo_snoc, ih (by omega)]
            have hd : ops.toList[i].dst = dst i := by show _ = dstOf ops.toList i; unfold dstOf; rw [List.getElem?_eq_getElem h1]; rfl
            have hD : rs[i].d = D i := by simp [D, List.getElem?_eq_getElem h2]
            rw [hd, hD]
            exact tsX_put hu (by omega) (by simp) (fun j _ => by
              by_cases hj : j < i <;> by_cases hj2 : j = i <;> simp [hj, hj2] <;> omega)
        have hspec' : ∀ (i : Nat) (o : Oper), ops[i]? = some o → ∃ r, rs[i]? = some r ∧ AllP r.C ∧ evG P ops o (maskFrom (looks ops o) 0 (tsX n dst D ts (fun j => decide (j < i)))) r.H r.hs = some (r.C, r.d, r.H', r.hs') ∧
            r.cls = clsOf P o (maskFrom (looks ops o) 0 (tsX n dst D ts (fun j => decide (j < i)))) r.H r.hs ∧ (i = 0 → r.H = σ.H) ∧ (∀ r2, rs[i + 1]? = some r2 → r2.H = r.H') ∧ (i + 1 = n → H1 = r.H') := by
          intro i o ho
          have hi : i < n := (Array.getElem?_eq_some_iff.1 ho).1
          obtain ⟨r, k1, k2, k3, k4, k5, k6, k7⟩ := hspec i o (by rw [hopl]; exact ho)
          rw [hTS i (by omega)] at k3 k4
          exact ⟨r, k1, k2, k3, k4, k5, k6, fun hl => k7 (by rw [hn]; exact hl)⟩
        -- the entries ahead of each operation
        let HH : Nat → List Ent := fun i => if i < n then ((rs[i]?).map (·.H)).getD [] else H1
        have hHH : ∀ i r, rs[i]? = some r → HH i = r.H ∧ HH (i + 1) = r.H' := by
          intro i r hr
          have hi : i < n := by rw [← hrl]; exact (List.getElem?_eq_some_iff.1 hr).1
          have hio : ops[i]? = some ops[i] := Array.getElem?_eq_getElem hi
          obtain ⟨r', k1, _, _, _, _, k6, k7⟩ := hspec' i _ hio
          rw [hr] at k1
          cases k1
          refine ⟨by simp [HH, hi, hr], ?_⟩
          by_cases h2 : i + 1 < n
          · have h3 : i + 1 < rs.length := by rw [hrl]; exact h2
            have h4 := List.getElem?_eq_getElem h3
            simp only [HH, h2, if_true, h4, Option.map_some, Option.getD_some]
            exact k6 _ h4
          · simp only [HH, h2, if_false]
            exact k7 (by omega)
        have hcl : ∀ i r, rs[i]? = some r → cls i = r.cls := by
          intro i r hr
          simp [cls, List.getD, hr]
        have hstay : ∀ i, i < n → cls i ≠ 2 → HH (i + 1) = HH i := by
          intro i hi h2
          have hio : ops[i]? = some ops[i] := Array.getElem?_eq_getElem hi
          obtain ⟨r, k1, _, k3, k4, _⟩ := hspec' i _ hio
          rw [(hHH i r k1).1, (hHH i r k1).2]
          exact evG_cls1 k3 (by rw [← k4, ← hcl i r k1]; exact h2)
        have hlev : ∀ (i k : Nat), i + k ≤ n → (∀ e, i ≤ e → e < i + k → cls e ≠ 2) → HH (i + k) = HH i := by
          intro i k
          induction k with
          | zero => intro _ _; rfl
          | succ k ih =>
            intro hk he
            rw [← Nat.add_assoc, hstay (i + k) (by omega) (he _ (by omega) (by omega)), ih (by omega) (fun e h1 h2 => he e h1 (by omega))]
        -- which entries there are, by what is listed
        let Lev : (Nat → Bool) → Nat → Prop := fun X i => i ≤ n ∧ ∀ e, e < n → cls e = 2 → (X e = true ↔ e < i)
        have hsameLev : ∀ (X : Nat → Bool) (i k : Nat), Lev X i → Lev X k → HH i = HH k := by
          have main : ∀ (X : Nat → Bool) (i k : Nat), i ≤ k → Lev X i → Lev X k → HH i = HH k := by
            intro X i k hik h1 h2
            have := hlev i (k - i) (by have := h2.1; omega) (fun e he1 he2 hce => by
              have hen : e < n := by have := h2.1; omega
              have h3 := (h1.2 e hen hce)
              have h4 := (h2.2 e hen hce)
              have : X e = true := h4.2 (by omega)
              have := h3.1 this
              omega)
            rw [← this]
            congr 1
            omega
          intro X i k h1 h2
          rcases Nat.le_total i k with h3 | h3
          · exact main X i k h3 h1 h2
          · exact (main X k i h3 h2 h1).symm
        -- the walk, whatever the order
        refine wp_region_any hm ?_
        have walk : ∀ (fuel : Nat) (listed : Array Bool) (a : Act) (σ1 : Sg), listed.size = n → unl (fun j => listed.getD j false) n ≤ fuel → Closed ops (fun j => listed.getD j false) → To σ σ1 → Ok σ1 →
            RepT σ1 (tsX n dst D ts (fun j => listed.getD j false)) a → (∃ i, Lev (fun j => listed.getD j false) i ∧ σ1.H = HH i) → wpAny P .any ops Q fuel listed a σ1.w := by
          intro fuel
          induction fuel with
          | zero =>
            intro listed a σ1 hsz hun hcl1 to1 ok1 hrep1 hlv
            have hall := unl_all (Nat.le_zero.1 hun)
            refine ⟨?_, ?_⟩
            · apply List.eq_nil_iff_forall_not_mem.2
              intro j hj
              obtain ⟨h1, o, ho, _⟩ := mem_ready.1 hj
              have hjn : j < n := (Array.getElem?_eq_some_iff.1 ho).1
              have h2 := hall j hjn
              have hjs : j < listed.size := by omega
              simp only [Array.getD, hjs, dif_pos] at h1 h2
              rw [h1] at h2
              cases h2
            · obtain ⟨i, hi, hH⟩ := hlv
              have hln : Lev (fun j => listed.getD j false) n := ⟨Nat.le_refl _, fun e he _ => ⟨fun _ => he, fun _ => hall e he⟩⟩
              refine hQ a σ1 ?_ to1 ok1 ?_
              · rw [hH, hsameLev _ i n hi hln]
                simp [HH]
              · have : ts1 = tsX n dst D ts (fun j => listed.getD j false) := by
                  have e1 := hTS n (Nat.le_refl _)
                  rw [List.take_of_length_le (by rw [List.length_zip, hn, hrl]; simp)] at e1
                  rw [hts', e1]
                  apply List.ext_getElem?
                  intro t
                  by_cases ht : t < ts.length
                  · rw [tsX_get ht, tsX_get ht]
                    congr 1
                    by_cases hex : ∃ j, j < n ∧ dst j = some t
                    · obtain ⟨j, h1, h2⟩ := hex
                      rw [val_some hu h1 (by simpa using h1) h2, val_some hu h1 (hall j h1) h2]
                    · rw [val_none (fun j h1 _ h3 => hex ⟨j, h1, h3⟩), val_none (fun j h1 _ h3 => hex ⟨j, h1, h3⟩)]
                  · rw [List.getElem?_eq_none (by rw [tsX_length]; omega), List.getElem?_eq_none (by rw [tsX_length]; omega)]
                rw [this]
                exact hrep1
          | succ fuel ih =>
            intro listed a σ1 hsz hun hcl1 to1 ok1 hrep1 hlv
            refine ⟨fun hr => ?_, fun i hi => ?_⟩
            · -- nothing is ready: all is listed
              have hall : ∀ j, j < n → listed.getD j false = true := by
                intro j
                induction j using Nat.strongRecOn with
                | _ j ihj =>
                  intro hj
                  cases hx : listed.getD j false with
                  | true => rfl
                  | false =>
                    have hjs : j < listed.size := by omega
                    have hjo : ops[j]? = some ops[j] := Array.getElem?_eq_getElem hj
                    have : j ∈ Region.ready .any ops listed := by
                      refine mem_ready.2 ⟨?_, ops[j], hjo, fun e he hb => ?_⟩
                      · simp only [Array.getD, hjs, dif_pos] at hx ⊢
                        exact hx
                      · have hlt := ready_back ops.toList 0 hback j ops[j] (by rw [hopl]; exact hjo) e he hb
                        exact ihj e.on (by omega) (by omega)
                    rw [hr] at this
                    cases this
              obtain ⟨i, hi, hH⟩ := hlv
              have hln : Lev (fun j => listed.getD j false) n := ⟨Nat.le_refl _, fun e he _ => ⟨fun _ => he, fun _ => hall e he⟩⟩
              refine hQ a σ1 ?_ to1 ok1 ?_
              · rw [hH, hsameLev _ i n hi hln]
                simp [HH]
              · have : ts1 = tsX n dst D ts (fun j => listed.getD j false) := by
                  have e1 := hTS n (Nat.le_refl _)
                  rw [List.take_of_length_le (by rw [List.length_zip, hn, hrl]; simp)] at e1
                  rw [hts', e1]
                  apply List.ext_getElem?
                  intro t
                  by_cases ht : t < ts.length
                  · rw [tsX_get ht, tsX_get ht]
                    congr 1
                    by_cases hex : ∃ j, j < n ∧ dst j = some t
                    · obtain ⟨j, h1, h2⟩ := hex
                      rw [val_some hu h1 (by simpa using h1) h2, val_some hu h1 (hall j h1) h2]
                    · rw [val_none (fun j h1 _ h3 => hex ⟨j, h1, h3⟩), val_none (fun j h1 _ h3 => hex ⟨j, h1, h3⟩)]
                  · rw [List.getElem?_eq_none (by rw [tsX_length]; omega), List.getElem?_eq_none (by rw [tsX_length]; omega)]
                rw [this]
                exact hrep1
            · -- one that is ready
              obtain ⟨h1, o, ho, hedge⟩ := mem_ready.1 hi
              have hin : i < n := (Array.getElem?_eq_some_iff.1 ho).1
              have his : i < listed.size := by omega
              let X : Nat → Bool := fun j => listed.getD j false
              have hXi : X i = false := by
                simp only [X, Array.getD, his, dif_pos] at h1 ⊢
                exact h1
              have hancL : ∀ j, (A.getD i 0).testBit j = true → X j = true := by
                intro j hj
                rw [hA i o ho] at hj
                unfold ancStep at hj
                rcases fold_bits A i j _ _ hj with h | ⟨e, e1, e2, e3, e4⟩
                · simp at h
                · have he := hedge e (by simpa using e1) e2
                  rcases e4 with e4 | e4
                  · rw [← e4]; exact he
                  · exact closed_anc hcl1 hA e.on ⟨ops[e.on], Array.getElem?_eq_getElem (by omega)⟩ he j e4
              have hancR : ∀ j, j < n → X j = true → (A.getD j 0).testBit i = true → False := by
                intro j hj hx hb
                have := closed_anc hcl1 hA j ⟨ops[j], Array.getElem?_eq_getElem hj⟩ hx i hb
                have hXi' : (listed.getD i false) = false := hXi
                rw [hXi'] at this
                cases this
              obtain ⟨r, k1, k2, k3, k4, _, _, _⟩ := hspec' i o ho
              have hmask : maskFrom (looks ops o) 0 (tsX n dst D ts X) = maskFrom (looks ops o) 0 (tsX n dst D ts (fun j => decide (j < i))) := by
                refine mask_same hu (fun j t hj hd ht => ?_)
                by_cases hij : i = j
                · subst hij
                  rw [hXi]
                  simp
                · have := hL i o j t ho hj hd ht hij
                  split at this
                  · rename_i hlt
                    rw [hancL j this]
                    simp [hlt]
                  · rename_i hge
                    have hxf : X j = false := by
                      cases hx : X j with
                      | false => rfl
                      | true => exact (hancR j hj hx this).elim
                    rw [hxf]
                    simp [hge]
              have hlevI : cls i ≠ 0 → Lev X i := fun h0 => ⟨by omega, fun e he hce => by
                by_cases hie : i = e
                · subst hie
                  rw [hXi]
                  simp
                · have := hE i e hin he h0 hce hie
                  split at this
                  · rename_i hlt
                    exact ⟨fun _ => hlt, fun _ => hancL e this⟩
                  · rename_i hge
                    exact ⟨fun hx => (hancR e he hx this).elim, fun h => absurd h hge⟩⟩
              obtain ⟨lv, hlv1, hlv2⟩ := hlv
              -- the same evaluation, at the entries that there are now
              have hnow : ∃ H2, evG P ops o (maskFrom (looks ops o) 0 (tsX n dst D ts X)) σ1.H r.hs = some (r.C, r.d, H2, r.hs') ∧
                  ∃ lv', Lev (fun j => (listed.setIfInBounds i true).getD j false) lv' ∧ H2 = HH lv' := by
                rw [hmask]
                have hgetset : ∀ j, (listed.setIfInBounds i true).getD j false = (X j || decide (j = i)) := by
                  intro j
                  by_cases hji : j = i
                  · subst hji
                    simp [Array.getD, his]
                  · simp only [X, Array.getD_eq_getD_getElem?, Array.getElem?_setIfInBounds, hji, decide_false, Bool.or_false]
                    rw [if_neg (fun h => hji h.symm)]
                by_cases h0 : cls i = 0
                · obtain ⟨e1, e2⟩ := evG_cls0 (H2 := σ1.H) k3 (by rw [← k4, ← hcl i r k1]; exact h0)
                  refine ⟨σ1.H, e2, lv, ⟨hlv1.1, fun e he hce => ?_⟩, hlv2⟩
                  have hne : ¬ e = i := by
                    rintro rfl
                    omega
                  show (listed.setIfInBounds i true).getD e false = true ↔ e < lv
                  rw [hgetset e]
                  simp only [hne, decide_false, Bool.or_false]
                  exact hlv1.2 e he hce
                · have hHi : σ1.H = r.H := by
                    rw [hlv2, hsameLev X lv i hlv1 (hlevI h0), (hHH i r k1).1]
                  rw [hHi]
                  refine ⟨r.H', k3, ?_⟩
                  by_cases h2 : cls i = 2
                  · refine ⟨i + 1, ⟨by omega, fun e he hce => ?_⟩, ((hHH i r k1).2).symm⟩
                    show (listed.setIfInBounds i true).getD e false = true ↔ e < i + 1
                    rw [hgetset e]
                    have := (hlevI h0).2 e he hce
                    by_cases hei : e = i
                    · subst hei; simp
                    · simp only [hei, decide_false, Bool.or_false]
                      rw [this]
                      omega
                  · refine ⟨i, ⟨by omega, fun e he hce => ?_⟩, ?_⟩
                    · have hne : ¬ e = i := by
                        rintro rfl
                        exact h2 hce
                      show (listed.setIfInBounds i true).getD e false = true ↔ e < i
                      rw [hgetset e]
                      simp only [hne, decide_false, Bool.or_false]
                      exact (hlevI h0).2 e he hce
                    · rw [← (hHH i r k1).2, hstay i hin h2]
              obtain ⟨H2, hev2, lv', hlv'1, hlv'2⟩ := hnow
              have key := evG_sound (P := P) (ops := ops) ok1 (maskFrom_rep (looks ops o) hrep1) hev2 k2 (wpAny P .any ops Q fuel (listed.setIfInBounds i true)) Q (fun v σ2 e1 to2 ok2 hrep2 => by
                have hgetset : ∀ j, (listed.setIfInBounds i true).getD j false = (X j || decide (j = i)) := by
                  intro j
                  by_cases hji : j = i
                  · subst hji
                    simp [Array.getD, his]
                  · simp only [X, Array.getD_eq_getD_getElem?, Array.getElem?_setIfInBounds, hji, decide_false, Bool.or_false]
                    rw [if_neg (fun h => hji h.symm)]
                refine ih _ _ σ2 (by simpa using hsz) ?_ ?_ (to1.trans to2) ok2 ?_ ⟨lv', hlv'1, by rw [e1]; exact hlv'2⟩
                · have := unl_less (Y := fun j => (listed.setIfInBounds i true).getD j false) hXi hin (fun j _ => hgetset j)
                  have hX' : unl X n ≤ fuel + 1 := hun
                  omega
                · intro j o' hj hx e he hb
                  show (listed.setIfInBounds i true).getD e.on false = true
                  rw [hgetset]
                  have hx' : (listed.setIfInBounds i true).getD j false = true := hx
                  rw [hgetset] at hx'
                  by_cases hji : j = i
                  · subst hji
                    rw [ho] at hj
                    cases hj
                    have : X e.on = true := hedge e he hb
                    rw [this]; rfl
                  · simp only [hji, decide_false, Bool.or_false] at hx'
                    have : X e.on = true := hcl1 j o' hj hx' e he hb
                    rw [this]; rfl
                · have hd : o.dst = dst i := by simp [dst, dstOf, ho]
                  have hD : r.d = D i := by simp [D, k1]
                  have hput := tsX_put (ts0 := ts) (D := D) hu hin hXi (fun j (_ : j < n) => hgetset j)
                  rw [← hput, ← hd, ← hD]
                  exact unmask (maskFrom_len _ _ _) (hrep1.to to2.leaf) hrep2)
              show wpOp P ops Q i _ a σ1.w
              unfold wpOp
              rw [ho]
              by_cases hw : Region.wanted o (yielded ops a.tmps) = true
              · rw [if_pos hw] at key
                simp only [hw, if_true]
                exact .inl key
              · rw [if_neg hw] at key
                simp only [hw]
                exact key
        have hdr2 : σ.w.grownBy { σ.w with drawn := σ.w.drawn + 1 } none := by
          exact ⟨rfl, rfl, rfl, Nat.le_refl _, fun _ _ _ => rfl⟩
        obtain ⟨to0, ok0⟩ := grow_to ok hdr2
        have hfalse : ∀ j, (Array.replicate ops.size false).getD j false = false := by
          intro j
          by_cases hj : j < ops.size <;> simp [Array.getD, hj]
        refine walk ops.size (Array.replicate ops.size false) a { σ with w := { σ.w with drawn := σ.w.drawn + 1 } } (by simp [n]) ?_ ?_ to0 ok0 ?_ ⟨0, ⟨Nat.zero_le _, fun e _ _ => ?_⟩, ?_⟩
        · exact unl_le
        · intro i o _ hx
          have hx' : (Array.replicate ops.size false).getD i false = true := hx
          rw [hfalse i] at hx'
          cases hx'
        · rw [tsX_empty (fun j _ => hfalse j)]
          exact hrep.to to0.leaf
        · show (Array.replicate ops.size false).getD e false = true ↔ e < 0
          rw [hfalse e]
          simp
        · show σ.H = HH 0
          by_cases h0 : 0 < n
          · obtain ⟨r, k1, _, _, _, k5, _⟩ := hspec' 0 _ (Array.getElem?_eq_getElem h0)
            rw [(hHH 0 r k1).1, k5 rfl]
          · have : ops.toList = [] := List.eq_nil_of_length_eq_zero (by omega)
            simp only [HH, h0, if_false]
            exact (hnil this).symm
      · cases h
    · cases h
  · cases h
end
end Go.Ev
