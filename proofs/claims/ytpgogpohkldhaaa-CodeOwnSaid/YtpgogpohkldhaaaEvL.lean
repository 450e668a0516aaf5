/- The evaluator, part L: why it is right: slices that are made, and appended to. -/
import Derived.Test.YtpgogpohkldhaaaEvK
set_option linter.unusedVariables false
set_option linter.unusedSimpArgs false
namespace Go.Ev

theorem setAll_seq (s : Nat) : ∀ (new pre post : List Dv), post.length = new.length → (∀ x, x ∈ post → x.size = s) → (∀ x, x ∈ new → x.size = s) →
    setAll (pre ++ post) ((List.range' pre.length new.length).zip new) = some (pre ++ new)
  | [], pre, post, hl, _, _ => by
    have : post = [] := List.eq_nil_of_length_eq_zero (by simpa using hl)
    subst this
    simp [setAll]
  | d :: new, pre, [], hl, _, _ => by simp at hl
  | d :: new, pre, q :: post, hl, h1, h2 => by
    simp only [List.length_cons, List.range'_succ, List.zip_cons_cons, setAll]
    have e : (pre ++ q :: post)[pre.length]? = some q := by simp
    have hs : q.size = d.size := by rw [h1 q (List.mem_cons_self ..), h2 d (List.mem_cons_self ..)]
    have e2 : (pre ++ q :: post).set pre.length d = (pre ++ [d]) ++ post := by simp
    simp only [setAt, e, hs, if_true, Option.bind_some, e2]
    have := setAll_seq s new (pre ++ [d]) post (by simpa using hl) (fun x hx => h1 x (List.mem_cons_of_mem _ hx)) (fun x hx => h2 x (List.mem_cons_of_mem _ hx))
    simp only [List.length_append, List.length_cons, List.length_nil, Nat.zero_add, List.append_assoc, List.singleton_append] at this ⊢
    exact this

theorem zip_of {α β γ : Type} (f : α → β) (g : α → γ) : ∀ (l : List α), l.map (fun q => (f q, g q)) = (l.map f).zip (l.map g)
  | [] => rfl
  | x :: l => by simp [zip_of f g l]

theorem junks_rep {σ : Sg} : ∀ (us : List Value), repDs σ (List.replicate us.length .junk) us
  | [] => by simp [repDs]
  | u :: us => by
    simp only [List.length_cons, List.replicate_succ, repDs]
    exact ⟨[u], us, rfl, by simp [repD], junks_rep us⟩
/-- cells of which nothing is known -/
def blank (s : Nat) : Dv := .agg (List.replicate s .junk)
theorem blank_size (s : Nat) : (blank s).size = s := by
  show Dv.sizes (List.replicate s .junk) = s
  rw [dsizes_map, List.map_replicate, List.sum_replicate_nat]
  simp [Dv.size]
theorem blank_rep {σ : Sg} {s : Nat} {us : List Value} (h : us.length = s) : repD σ (blank s) us := by
  subst h
  show repD σ (.agg (List.replicate us.length .junk)) us
  simp only [repD]
  exact junks_rep us
theorem blanks_rep {σ : Sg} {s : Nat} : ∀ (n : Nat) (us : List Value), us.length = n * s → repDs σ (List.replicate n (blank s)) us
  | 0, us, h => by
    have : us = [] := List.eq_nil_of_length_eq_zero (by simpa using h)
    subst this
    simp [repDs]
  | n + 1, us, h => by
    rw [Nat.add_mul, Nat.one_mul] at h
    simp only [List.replicate_succ, repDs]
    exact ⟨us.take s, us.drop s, (List.take_append_drop s us).symm, blank_rep (by rw [List.length_take]; omega), blanks_rep n _ (by rw [List.length_drop]; omega)⟩

section
variable {P : Program} {o : Oper} {a : Act} {σ : Sg} {ts : List Dv} {hs hs' : List Hint} {C : List Prop} {d : Dv}

theorem repDs_list {σ : Sg} (f : Nat → Operand → Dv) (g : Operand → Value) : ∀ (l : List (Nat × Operand)), (∀ q, q ∈ l → repDV σ (f q.1 q.2) (g q.2)) → repVs σ (l.map fun q => f q.1 q.2) (l.map fun q => g q.2)
  | [], _ => by simp [repVs]
  | q :: l, h => by
    simp only [List.map_cons, repVs]
    exact ⟨_, _, rfl, h q (List.mem_cons_self ..), repDs_list f g l (fun x hx => h x (List.mem_cons_of_mem _ hx))⟩

theorem plains_solid : ∀ {ds : List Dv} {xs : List Pl}, plains ds = some xs → ∀ d, d ∈ ds → d.solid = true
  | [], _, _, d, hd => by cases hd
  | x :: ds, xs, h, d, hd => by
    simp only [plains] at h
    split at h
    · rename_i y ys h1 h2
      cases hd with
      | head =>
        unfold Dv.plain at h1
        split at h1
        · rfl
        · rfl
        · cases h1
      | tail _ hd => exact plains_solid h2 d hd
    · cases h

theorem lit_sound (hrep : RepT σ ts a) {e : TypeId} {s len : Nat} {parts : List (Nat × Operand)} {xs : List Pl} (h : litParts P ts e s len parts = some xs) (Z : Array Value) (hZ : Z.size = len * s) :
    ∃ cells : Array Value, Instr.fill (fun i => some (i * s, s)) Z (parts.map fun q => (q.1, a.eval q.2)) = some cells ∧ repCs σ.w σ.stab xs cells.toList ∧ xs.length = len ∧ allSz s xs := by
  unfold litParts at h
  split at h
  · rename_i hr
    have hr' : parts.map (·.1) = List.range len := by simpa using hr
    split at h
    · rename_i xs' hp
      split at h
      · rename_i hall
        cases h
        have hsz : ∀ x, x ∈ xs → x.size = s := by
          intro x hx
          have := List.all_eq_true.1 hall x hx
          simpa using this
        have hps := plains_size hp
        have hdl : (parts.map fun q => argD P ts e q.2).length = len := by
          have := congrArg List.length hr'
          simpa using this
        have hds : ∀ x, x ∈ (parts.map fun q => argD P ts e q.2) → x.size = s := by
          intro x hx
          have h1 : x.size ∈ (parts.map fun q => argD P ts e q.2).map Dv.size := List.mem_map_of_mem hx
          rw [← hps] at h1
          obtain ⟨y, hy, he⟩ := List.mem_map.1 h1
          rw [← he]; exact hsz y hy
        have hxl : xs.length = len := by
          have := congrArg List.length hps
          simp only [List.length_map] at this
          rw [this]
          simpa using hdl
        obtain ⟨qs, hq1, hq2, hq3⟩ := tupAll_rep (P := P) hrep (fun _ => e) parts (by
          simp only [solidAll, tupAll, List.all_map, List.all_eq_true]
          intro q hq
          exact plains_solid hp _ (List.mem_map_of_mem hq))
        have hset : setAll (List.replicate len (blank s)) (tupAll P ts (fun _ => e) parts) = some (parts.map fun q => argD P ts e q.2) := by
          have h1 := setAll_seq s (parts.map fun q => argD P ts e q.2) [] (List.replicate len (blank s)) (by simpa using hdl.symm) (fun x hx => by rw [List.eq_of_mem_replicate hx, blank_size]) hds
          simp only [List.nil_append, List.length_nil] at h1
          have h2 : tupAll P ts (fun _ => e) parts = (List.range' 0 (parts.map fun q => argD P ts e q.2).length).zip (parts.map fun q => argD P ts e q.2) := by
            rw [hdl, ← List.range_eq_range', ← hr']
            exact zip_of _ _ parts
          rw [h2]
          exact h1
        rw [← hq1] at hset
        obtain ⟨cells, hfill, hrd, _⟩ := fill_sound (σ := σ) (place := fun i => some (i * s, s)) (sz := List.replicate len s) (by
          intro i s' hi
          simp only [List.getElem?_replicate] at hi
          split at hi
          · cases hi
            rw [take_replicate_sum _ _ _ (by omega)]
          · cases hi) qs (List.replicate len (blank s)) _ Z (by simp [blank_size]) (blanks_rep len _ (by simpa using hZ)) hq3 hset
        refine ⟨cells, ?_, plains_rep hp hrd, hxl, fun x hx => hsz x hx⟩
        rw [← hq2]
        exact hfill
      · cases h
    · cases h
  · cases h

theorem buildSlice_run {e t : TypeId} {i : TypeInfo} {len : Nat} {parts : Array (Nat × Value)} {Q : Array Value → Prop} (w : World) (hu : P.underlying t = some (.slice e)) (hi : P.info? e = some i) (hz : zOk i = true)
    (hsz : len * i.size ≤ 16777216) (hfill : ∀ Z : Array Value, Z.size = len * i.size → ∃ cells, Instr.fill (fun j => some (j * i.size, i.size)) Z parts.toList = some cells ∧ Q cells) :
    ∃ cells, (Instr.buildSlice t len parts).run P w = .ok (.slice (some ⟨w.heap.size, 0, none⟩) len len) (w.alloc (.cells cells e)) ∧ Q cells := by
  unfold zOk at hz
  split at hz
  · rename_i z hzz
    have h1 : ¬ (16777216 < len * i.size) := by omega
    by_cases h0 : len * i.size = 0
    · obtain ⟨cells, h2, hq⟩ := hfill ((Array.range (len * i.size)).map (#[][· % (#[] : Array Value).size]!)) (by simp)
      refine ⟨cells, ?_, hq⟩
      simp only [h0] at h2
      simp [Instr.buildSlice, run_underlying hu, sizeOf, typeInfo, hi, h0, newRow]
      simp at h2
      simp [h2]
    · obtain ⟨cells, h2, hq⟩ := hfill ((Array.range (len * i.size)).map (z.cells[· % z.cells.size]!)) (by simp)
      exact ⟨cells, by simp [Instr.buildSlice, run_underlying hu, sizeOf, typeInfo, zeroValue, hi, hzz, h1, h0, newRow, h2], hq⟩
  · cases hz
end
end Go.Ev
