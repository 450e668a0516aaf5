/- The evaluator, part Q2: why it is right: copy into a part of a variable. -/
import Derived.Test.YtpgogpohkldhaaaEvT
set_option linter.unusedVariables false
set_option linter.unusedSimpArgs false
namespace Go.Ev

section
variable {P : Program} {o : Oper} {a : Act} {σ : Sg} {ts : List Dv} {hs hs' : List Hint} {C : List Prop} {d : Dv}

theorem copy_exec {x y : Operand} {t u : TypeId} {c : Call} {w' : World} (ho : o.op = .call c) (hc : c.callee = .builtin .copy) (hargs : c.args.toList = [x, y]) (htys : c.argTypes.toList = [t, u]) {v : Value}
    (h : (Builtin.copy_ #[t, u] o.type #[a.eval x, a.eval y]).run P σ.w = .ok v w') : (execOp a.eval o).run P σ.w = .ok (.value v) w' := by
  have h1 : c.args = #[x, y] := by rw [← Array.toArray_toList (xs := c.args), hargs]
  have h2 : c.argTypes = #[t, u] := by rw [← Array.toArray_toList (xs := c.argTypes), htys]
  simp [execOp, ho, resolve, hc, h1, h2, invoke, builtin, h]

theorem srcH_sound (ok : Ok σ) (hrep : RepT σ ts a) {s : Nat} {u ut : TypeId} {y : Operand} {ys : List Pl} {hs1 : List Hint} {C1 : List Prop} (h : srcH P s u σ.H hs (argD P ts ut y) = some (C1, ys, hs1)) (hc : AllP C1) :
    SrcOk P σ s u (a.eval y) ys := by
  unfold srcH at h
  split at h
  · rename_i id off path s' lo n hd
    have hxv := arg_rep (P := P) hrep ut y
    rw [hd] at hxv
    obtain ⟨b, cap, A, hm, hv, hve, hcap, hcm, hA⟩ := view_one hxv
    split at h
    · rename_i e dd st hu hH
      split at h
      · rename_i C2 off' N s2 zs hs2 hg
        split at h
        · rename_i hk
          simp only [Bool.and_eq_true, decide_eq_true_eq] at hk
          obtain ⟨rfl, rfl⟩ := hk
          simp only [Option.some.injEq, Prod.mk.injEq] at h
          obtain ⟨rfl, rfl, rfl⟩ := h
          obtain ⟨c1, rfl, c2, _⟩ := allP_append.1 hc
          obtain ⟨b', cs, t', h1, h2, h3, h4⟩ := ok.ent id _ _ hH hm
          cases h1
          obtain ⟨p1, p2, p3, h5, h6, h7, _⟩ := put_sound path dd hs hs2 C2 off' (.p (.arr N s2 zs)) _ hg c1 h3
          simp only [repD, repC] at h7
          obtain ⟨hxl, hxs, h7⟩ := h7
          have hsplit : zs = zs.take lo ++ ((zs.drop lo).take n ++ zs.drop (lo + n)) := by
            have e1 : zs.drop (lo + n) = (zs.drop lo).drop n := by rw [List.drop_drop]
            rw [e1, List.take_append_drop, List.take_append_drop]
          rw [hsplit] at h7
          obtain ⟨q1, q23, rfl, r1, r23⟩ := repCs_split h7
          obtain ⟨q2, q3, rfl, r2, r3⟩ := repCs_split r23
          have hs1 : allSz s2 (zs.take lo) := fun z hz => hxs z (List.mem_of_mem_take hz)
          have hsy : allSz s2 ((zs.drop lo).take n) := fun z hz => hxs z (List.mem_of_mem_drop (List.mem_of_mem_take hz))
          have ly : ((zs.drop lo).take n).length = n := by rw [List.length_take, List.length_drop, Nat.min_eq_left (by omega)]
          have l1 : q1.length = lo * s2 := by rw [repCs_size _ _ r1, sizes_all hs1, List.length_take, Nat.min_eq_left (by omega)]
          have l2 : q2.length = n * s2 := by rw [repCs_size _ _ r2, sizes_all hsy, ly]
          rw [hve]
          refine ⟨q2, ⟨.inl ⟨_, hu⟩, fun w' => by rw [ly]; rfl, ?_, ?_, by rw [ly]; exact l2⟩, r2, fun _ => hsy⟩
          all_goals
            rw [ly]
            rcases Nat.eq_zero_or_pos n with h0 | h0
            · subst h0
              have hz : q2 = [] := List.eq_nil_of_length_eq_zero (by rw [l2]; simp)
              rw [hz]
              simp [Builtin.firstCells, loadCells, loadCellsFrom]
            · rw [hA h0]
              refine run_firstCells_some _ s2 _ ⟨b, off' + lo * s2, none⟩ _ cap q2 l2 (fun j v hv => ?_)
              rw [Addr.add_mk]
              have hcell : σ.w.cell? ⟨b, off' + lo * s2 + j, none⟩ = cs[off' + lo * s2 + j]? := cell_of_row σ.w b _ cs t' (0, 0) h2
              first
                | (rw [hcell, ← Array.getElem?_toList]
                   have h5' : cs.toList.take dd.size = (p1 ++ q1) ++ (q2 ++ (q3 ++ p3)) := by rw [h5]; simp
                   have hpl : (p1 ++ q1).length = off' + lo * s2 := by rw [List.length_append, h6, l1]
                   have hj : j < q2.length := (List.getElem?_eq_some_iff.1 hv).1
                   have e2 : (cs.toList.take dd.size)[off' + lo * s2 + j]? = some v := by
                     rw [h5', List.getElem?_append_right (by omega), hpl, Nat.add_sub_cancel_left, List.getElem?_append_left hj]
                     exact hv
                   rw [List.getElem?_take] at e2
                   split at e2
                   · exact e2
                   · cases e2)
                | (show σ.w.drew.cell? _ = _
                   have hcell2 : σ.w.drew.cell? ⟨b, off' + lo * s2 + j, none⟩ = σ.w.cell? ⟨b, off' + lo * s2 + j, none⟩ := rfl
                   rw [hcell2, hcell, ← Array.getElem?_toList]
                   have h5' : cs.toList.take dd.size = (p1 ++ q1) ++ (q2 ++ (q3 ++ p3)) := by rw [h5]; simp
                   have hpl : (p1 ++ q1).length = off' + lo * s2 := by rw [List.length_append, h6, l1]
                   have hj : j < q2.length := (List.getElem?_eq_some_iff.1 hv).1
                   have e2 : (cs.toList.take dd.size)[off' + lo * s2 + j]? = some v := by
                     rw [h5', List.getElem?_append_right (by omega), hpl, Nat.add_sub_cancel_left, List.getElem?_append_left hj]
                     exact hv
                   rw [List.getElem?_take] at e2
                   split at e2
                   · exact e2
                   · cases e2)
        · cases h
      · cases h
    · cases h
  · simp only [Option.map_eq_some_iff, Prod.mk.injEq] at h
    obtain ⟨zs, h1, rfl, rfl, rfl⟩ := h
    exact srcOf_sound (P := P) hrep h1

theorem e_copy (ok : Ok σ) (hrep : RepT σ ts a) {c : Call} {x y : Operand} {t u e : TypeId} {id off s lo n N : Nat} {path : List Nat} {dd dd' : Dv} {xs ys : List Pl} {C1 : List Prop} {off' : Nat} (ho : o.op = .call c) (hcal : c.callee = .builtin .copy)
    (hargs : c.args.toList = [x, y]) (htys : c.argTypes.toList = [t, u]) (ht : P.underlying t = some (.slice e)) (hx : argD P ts t x = .view id off path s lo n) (hsrc : srcOf P s u (argD P ts u y) = some ys)
    (hH : σ.H[id]? = some (.var dd true)) (hg : getAt dd path hs = some (C1, off', .p (.arr N s xs), hs')) (hc : AllP C1) (he : off' = off) (hp : putAt (.p (.arr N s (laidAt xs ys lo))) dd path hs = some dd')
    (hce : P.cellsOf e = s) (hi : (P.info? e).isSome = true) (hm' : ys.length ≤ n) (hn : lo + n ≤ N) : OpOk P o a σ (.p (.int .i64 (ys.length : Int))) (σ.H.set id (.var dd' true)) := by
  subst he
  have hxv := arg_rep (P := P) hrep t x
  rw [hx] at hxv
  obtain ⟨b, cap, A, hm, hv, hxv, hcap, hcm, hA⟩ := view_one hxv
  obtain ⟨news, hS, hnr, hall⟩ := srcOf_sound (P := P) hrep hsrc
  obtain ⟨b', cs, t', h1, h2, h3, h4⟩ := ok.ent id _ _ hH hm
  cases h1
  obtain ⟨p1, p2, p3, h5, h6, h7, h8⟩ := put_sound path dd hs hs' C1 off' (.p (.arr N s xs)) _ hg hc h3
  simp only [repD, repC] at h7
  obtain ⟨hxl, hxs, h7⟩ := h7
  have hlo : lo + ys.length ≤ xs.length := by omega
  have hsplit : xs = xs.take lo ++ ((xs.drop lo).take ys.length ++ xs.drop (lo + ys.length)) := by
    have e1 : xs.drop (lo + ys.length) = (xs.drop lo).drop ys.length := by rw [List.drop_drop]
    rw [e1, List.take_append_drop, List.take_append_drop]
  rw [hsplit] at h7
  obtain ⟨q1, q23, rfl, r1, r23⟩ := repCs_split h7
  obtain ⟨q2, q3, rfl, r2, r3⟩ := repCs_split r23
  have hs1 : allSz s (xs.take lo) := fun z hz => hxs z (List.mem_of_mem_take hz)
  have hs2 : allSz s ((xs.drop lo).take ys.length) := fun z hz => hxs z (List.mem_of_mem_drop (List.mem_of_mem_take hz))
  have hs3 : allSz s (xs.drop (lo + ys.length)) := fun z hz => hxs z (List.mem_of_mem_drop hz)
  have l1 : q1.length = lo * s := by rw [repCs_size _ _ r1, sizes_all hs1, List.length_take, Nat.min_eq_left (by omega)]
  have l2 : q2.length = ys.length * s := by rw [repCs_size _ _ r2, sizes_all hs2, List.length_take, List.length_drop, Nat.min_eq_left (by omega)]
  have ln : news.length = ys.length * s := hS.cells
  have hys : allSz s ys := by
    by_cases h0 : ys = []
    · subst h0; intro z hz; cases hz
    · exact hall h0
  have hcells : repD σ (.p (.arr N s (laidAt xs ys lo))) (q1 ++ (news ++ q3)) := by
    simp only [repD, repC]
    refine ⟨?_, ?_, ?_⟩
    · unfold laidAt
      simp only [List.length_append, List.length_take, List.length_drop]
      omega
    · exact allSz_append hs1 (allSz_append hys hs3)
    · exact repCs_append r1 (repCs_append hnr r3)
  obtain ⟨h9, h10⟩ := h8 _ dd' _ hp rfl hcells
  have h5' : cs.toList.take dd.size = (p1 ++ q1) ++ (q2 ++ (q3 ++ p3)) := by rw [h5]; simp
  have hll : news.length = q2.length := by rw [ln, l2]
  obtain ⟨k1, k2⟩ := row_part h5' hll h4
  have hpl : (p1 ++ q1).length = off' + lo * s := by rw [List.length_append, h6, l1]
  rw [hpl] at k1 k2
  have hnl : off' + lo * s + news.length ≤ cs.size := by
    have := congrArg List.length h5'
    simp only [List.length_take, Array.length_toList, List.length_append] at this
    omega
  have hone : ∀ v, v ∈ news → v.oneCell' = true := repCs_one _ _ hnr
  have hst := run_storeCells_at P b (off' + lo * s) t' news 0 cs σ.w h2 (by simpa using hnl) hone
  simp only [Nat.add_zero] at hst
  let ncs : Array Value := (cs.toList.take (off' + lo * s) ++ news ++ cs.toList.drop (off' + lo * s + news.length)).toArray
  have hstA : (storeCells A news 0).run P σ.w = .ok () (σ.w.setRow b ncs) := by
    by_cases h0 : ys.length = 0
    · have hz : news = [] := List.eq_nil_of_length_eq_zero (by rw [ln, h0]; simp)
      have e1 : ncs = cs := by
        simp only [ncs, hz, List.append_nil, List.length_nil, Nat.add_zero, List.take_append_drop, Array.toArray_toList]
      rw [e1, setRow_self σ.w b cs t' (0, 0) h2, hz]
      simp [storeCells]
    · rw [hA (by omega)]
      exact hst
  let σ' : Sg := { σ with m := σ.m.set id (some b), H := σ.H.set id (.var dd' true), w := σ.w.setRow b ncs }
  have hblk : σ'.w.heap[b]? = some (.cells ncs t' (0, 0)) := setRow_heap σ.w b cs _ t' _ h2
  have hoth : ∀ j, b ≠ j → σ'.w.heap[j]? = σ.w.heap[j]? := fun j hj => setRow_other σ.w b j _ (Ne.symm hj)
  obtain ⟨to, ok'⟩ := turn_to (σ' := σ') (mi := some b) (mi' := some b) ok hH hm rfl rfl rfl rfl rfl rfl rfl (by simp [σ'])
    (fun j hj hne => hoth j (fun hh => hne (by rw [hh]))) (fun b' o v _ hu _ => by cases hu) (fun o _ hu => by cases hu) (.inl rfl) (fun _ => ⟨rfl, dd', true, rfl⟩) (fun ⟨d, st, h⟩ => by cases h)
    (fun s e xs h => by cases h) (fun leaf => ⟨b, ncs, t', rfl, hblk, by rw [h10]; show repD σ' dd' (ncs.toList.take dd.size); rw [show ncs.toList.take dd.size = p1 ++ ((q1 ++ (news ++ q3)) ++ p3) from by rw [k1]; simp]; exact repD_leaf leaf dd' _ h9, by
      rw [h10]
      show dd.size ≤ ncs.size
      have : ncs.size = cs.size := k2
      omega⟩)
  refine opOk_step (σ' := σ') (v := goInt ys.length) (copy_exec ho hcal hargs htys ?_) to ok' (by rw [repDV_one rfl]; simp [repD, repC, goInt])
  cases hi' : P.info? e with
  | none => simp [hi'] at hi
  | some i =>
    have hsz : i.size = s := by rw [← hce]; simp [Program.cellsOf, hi']
    have hmin : Nat.min ys.length n = ys.length := Nat.min_eq_left hm'
    rw [hxv]
    simp [Builtin.copy_, run_underlying ht, hS.len, hmin, sizeOf, typeInfo, hi', hsz, hS.first, hstA, goInt, σ']
end
end Go.Ev
