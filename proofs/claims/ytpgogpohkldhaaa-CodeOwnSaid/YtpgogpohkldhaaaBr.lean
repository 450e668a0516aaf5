/- From a statement's arguments, read as data, to plain data; and back again behind the call. -/
import Derived.Test.YtpgogpohkldhaaaEvX
import Derived.Below
import Derived.ChangeSame
import Derived.ChangeCalls
import Derived.ChangeStays
import Derived.OpenShut
import Derived.ProofKit
import Derived.JoinedCond
set_option linter.unusedVariables false
set_option linter.unusedSimpArgs false
namespace Go.Ev
open Go.RowKit Go.WideShapes Go.ChangeShapes

/-- types of plain data, laid out in order -/
def plainTy (P : Program) : Nat → TypeId → Bool
  | 0, _ => false
  | n + 1, t => match P.underlying t with
    | some .bool => true
    | some (.int _) => true
    | some .string => true
    | some (.slice e) => plainTy P n e && decide (0 < P.cellsOf e)
    | some (.array m e) => plainTy P n e && P.cellsOf t == m * P.cellsOf e
    | some (.struct fs) => (fs.toList.all fun f => plainTy P n f.type) && P.cellsOf t == (fs.toList.map fun f => P.cellsOf f.type).sum &&
        ((List.range fs.toList.length).all fun j => match fs.toList[j]? with | some f => f.offset == ((fs.toList.take j).map fun f => P.cellsOf f.type).sum | none => true)
    | _ => false

theorem plainTy_kids (P : Program) : Kids P (fun t => ∃ n, plainTy P n t = true) where
  pointer := by
    rintro t e ⟨n, h⟩ hu
    cases n with
    | zero => simp [plainTy] at h
    | succ n => simp [plainTy, hu] at h
  slice := by
    rintro t e ⟨n, h⟩ hu
    cases n with
    | zero => simp [plainTy] at h
    | succ n => simp [plainTy, hu] at h; exact ⟨n, h.1⟩
  array := by
    rintro t e m ⟨n, h⟩ hu
    cases n with
    | zero => simp [plainTy] at h
    | succ n => simp [plainTy, hu] at h; exact ⟨⟨n, h.1⟩, h.2⟩
  struct := by
    rintro t fs ⟨n, h⟩ hu
    cases n with
    | zero => simp [plainTy] at h
    | succ n =>
      simp only [plainTy, hu, Bool.and_eq_true, beq_iff_eq, List.all_eq_true] at h
      obtain ⟨⟨h1, h2⟩, h3⟩ := h
      refine ⟨fun f hf => ⟨n, h1 f hf⟩, h2, fun j f hf => ?_⟩
      have hj : j < fs.toList.length := (List.getElem?_eq_some_iff.1 hf).1
      have := h3 j (by simpa using hj)
      rw [hf] at this
      simpa using this
  map := by
    rintro t k e ⟨n, h⟩ hu
    cases n with
    | zero => simp [plainTy] at h
    | succ n => simp [plainTy, hu] at h

def wtFs (R : TypeId → Pl → Prop) : List Field → List Pl → Prop
  | [], [] => True
  | f :: fs, y :: ys => R f.type y ∧ wtFs R fs ys
  | _, _ => False
/-- plain data of a type -/
def wtP (P : Program) : Nat → TypeId → Pl → Prop
  | 0, _, _ => False
  | n + 1, t, x => match P.underlying t, x with
    | some .bool, .bool _ => True
    | some (.int k), .int k' m => k' = k ∧ (Lit.int k m).wf = true
    | some .string, .str s => s.size ≤ maxLen
    | some (.slice e), .sl nn s xs => s = P.cellsOf e ∧ (nn = false → xs = []) ∧ xs.length ≤ maxLen ∧ ∀ y, y ∈ xs → wtP P n e y
    | some (.array m e), .arr m' s xs => m' = m ∧ s = P.cellsOf e ∧ xs.length = m ∧ ∀ y, y ∈ xs → wtP P n e y
    | some (.struct fs), .agg xs => wtFs (wtP P n) fs.toList xs
    | _, _ => False

def All1 : Nat → Nat → Prop := fun _ _ => True

section
variable {H : Type} {enc : TypeId × Value → H} {P : Program} {w : World} {base : Nat} {sp : Nat → Bool} {held : Bool}

theorem cells_get : ∀ {s : Nat} {a : Addr} {cs : List Value}, w.cells? base a s = some cs → cs.length = s ∧ ∀ j u, cs[j]? = some u → w.cell? (a.add j) = some u := by
  intro s a cs h
  unfold World.cells? at h
  split at h
  · have hl : cs.length = s := by simpa using mapM_some_length h
    refine ⟨hl, fun j u hu => ?_⟩
    have hj : j < s := by rw [← hl]; exact (List.getElem?_eq_some_iff.1 hu).1
    have := mapM_some_get h j j (by simp [hj])
    rw [hu] at this
    exact this
  · cases h

/-- how a slice's elements, read one by one, lie -/
theorem rows_pl {e : TypeId} {n m : Nat} {a : Addr} {s : Nat} (hs : 0 < s) {elems : List (DataW H × List MemPlace)} {len : Nat} (hlen : elems.length = len)
    (ih : ∀ (cs : List Value) (x : DataW H × List MemPlace), DataW.trod enc P w base sp held m e cs = some x → cs.length = s → ∃ pl, wtP P n e pl ∧ repC w All1 pl cs)
    (h : ∀ i, i < len → (w.cells? base (a.add (i * s)) s).bind (DataW.trod enc P w base sp held m e) = elems[i]?) :
    ∀ k, k ≤ len → ∃ (xs : List Pl) (us : List Value), xs.length = k ∧ (∀ y, y ∈ xs → wtP P n e y) ∧ allSz s xs ∧ us.length = k * s ∧ repCs w All1 xs us ∧ (∀ j u, us[j]? = some u → w.cell? (a.add j) = some u)
  | 0, _ => ⟨[], [], rfl, (fun y hy => by cases hy), (fun y hy => by cases hy), by simp, by simp [repCs], by simp⟩
  | k + 1, hk => by
    obtain ⟨xs, us, h1, h2, h3, h4, h5, h6⟩ := rows_pl hs hlen ih h k (by omega)
    have hk' := h k (by omega)
    rw [List.getElem?_eq_getElem (by omega)] at hk'
    obtain ⟨cs, hc, ht⟩ := Option.bind_eq_some_iff.1 hk'
    obtain ⟨c1, c2⟩ := cells_get hc
    obtain ⟨pl, p1, p2⟩ := ih cs _ ht c1
    have psz : pl.size = s := by rw [← repC_size _ _ p2, c1]
    refine ⟨xs ++ [pl], us ++ cs, by simp [h1], fun y hy => ?_, fun y hy => ?_, by simp [h4, c1, Nat.add_mul], repCs_append h5 (by simpa [repCs] using p2), fun j u hu => ?_⟩
    · rcases List.mem_append.1 hy with hy | hy
      · exact h2 y hy
      · rw [List.mem_singleton.1 hy]; exact p1
    · rcases List.mem_append.1 hy with hy | hy
      · exact h3 y hy
      · rw [List.mem_singleton.1 hy]; exact psz
    · by_cases hj : j < us.length
      · rw [List.getElem?_append_left hj] at hu; exact h6 j u hu
      · rw [List.getElem?_append_right (by omega)] at hu
        have := c2 _ _ hu
        rw [Addr.add_add] at this
        rw [← this]
        congr 2
        omega

theorem drops_pl {e : TypeId} {n m : Nat} {s : Nat} {cs : List Value} {elems : List (DataW H × List MemPlace)} {len : Nat} (hlen : elems.length = len) (hcs : cs.length = len * s)
    (ih : ∀ (cs : List Value) (x : DataW H × List MemPlace), DataW.trod enc P w base sp held m e cs = some x → cs.length = s → ∃ pl, wtP P n e pl ∧ repC w All1 pl cs)
    (h : ∀ i, i < len → DataW.trod enc P w base sp held m e ((cs.drop (i * s)).take s) = elems[i]?) :
    ∀ k, k ≤ len → ∃ (xs : List Pl), xs.length = k ∧ (∀ y, y ∈ xs → wtP P n e y) ∧ allSz s xs ∧ repCs w All1 xs (cs.take (k * s))
  | 0, _ => ⟨[], rfl, (fun y hy => by cases hy), (fun y hy => by cases hy), by simp [repCs]⟩
  | k + 1, hk => by
    obtain ⟨xs, h1, h2, h3, h5⟩ := drops_pl hlen hcs ih h k (by omega)
    have hk' := h k (by omega)
    rw [List.getElem?_eq_getElem (by omega)] at hk'
    have hle : k * s + s ≤ len * s := by rw [← Nat.succ_mul]; exact Nat.mul_le_mul_right _ hk
    have c1 : ((cs.drop (k * s)).take s).length = s := by simp; omega
    obtain ⟨pl, p1, p2⟩ := ih _ _ hk' c1
    have psz : pl.size = s := by rw [← repC_size _ _ p2, c1]
    refine ⟨xs ++ [pl], by simp [h1], fun y hy => ?_, fun y hy => ?_, ?_⟩
    · rcases List.mem_append.1 hy with hy | hy
      · exact h2 y hy
      · rw [List.mem_singleton.1 hy]; exact p1
    · rcases List.mem_append.1 hy with hy | hy
      · exact h3 y hy
      · rw [List.mem_singleton.1 hy]; exact psz
    · rw [Nat.add_mul, Nat.one_mul, List.take_add]
      exact repCs_append h5 (by simpa [repCs] using p2)

theorem fields_pl {n m : Nat} {cs : List Value}
    (ih : ∀ (t : TypeId), plainTy P n t = true → ∀ (cs : List Value) (x : DataW H × List MemPlace), DataW.trod enc P w base sp held m t cs = some x → ∃ pl, wtP P n t pl ∧ repC w All1 pl cs) :
    ∀ (fs : List Field) (o : Nat), (∀ f, f ∈ fs → plainTy P n f.type = true) → (∀ (j : Nat) f, fs[j]? = some f → f.offset = o + ((fs.take j).map fun f => P.cellsOf f.type).sum) →
      cs.length = o + (fs.map fun f => P.cellsOf f.type).sum → (∀ (j : Nat) f, fs[j]? = some f → ∃ x, DataW.trod enc P w base sp held m f.type ((cs.drop f.offset).take (P.cellsOf f.type)) = some x) →
      ∃ (xs : List Pl), wtFs (wtP P n) fs xs ∧ repCs w All1 xs (cs.drop o)
  | [], o, _, _, hl, _ => ⟨[], trivial, by simp only [repCs]; apply List.drop_eq_nil_of_le; simp at hl; omega⟩
  | f :: fs, o, hp, ho, hl, h => by
    obtain ⟨x, hx⟩ := h 0 f rfl
    have ho0 := ho 0 f rfl
    simp at ho0
    rw [ho0] at hx
    obtain ⟨pl, p1, p2⟩ := ih f.type (hp f (List.mem_cons_self ..)) _ _ hx
    simp only [List.map_cons, List.sum_cons] at hl
    obtain ⟨xs, q1, q2⟩ := fields_pl ih fs (o + P.cellsOf f.type) (fun g hg => hp g (List.mem_cons_of_mem _ hg)) (fun j g hg => by
      have := ho (j + 1) g hg
      simp only [List.take_succ_cons, List.map_cons, List.sum_cons] at this
      omega) (by omega) (fun j g hg => h (j + 1) g hg)
    refine ⟨pl :: xs, ⟨p1, q1⟩, ?_⟩
    simp only [repCs]
    refine ⟨(cs.drop o).take (P.cellsOf f.type), (cs.drop o).drop (P.cellsOf f.type), (List.take_append_drop ..).symm, p2, ?_⟩
    rw [List.drop_drop]
    exact q2

theorem trod_pl : ∀ (n m : Nat) (t : TypeId), plainTy P n t = true → ∀ (cs : List Value) (x : DataW H × List MemPlace), DataW.trod enc P w base sp held m t cs = some x → ∃ pl, wtP P n t pl ∧ repC w All1 pl cs := by
  intro n
  induction n with
  | zero => intro m t h; simp [plainTy] at h
  | succ n ih =>
    intro m t ht cs x h
    unfold plainTy at ht
    split at ht
    · rename_i hu
      obtain ⟨b, rfl, _⟩ := DataW.trod_bool hu h
      exact ⟨.bool b, by simp [wtP, hu], by simp [repC]⟩
    · rename_i k hu
      obtain ⟨z, rfl, rfl, hw⟩ := DataW.trod_int hu h
      exact ⟨.int k z, by simp [wtP, hu, hw], by simp [repC]⟩
    · rename_i hu
      obtain ⟨s, rfl, h2⟩ := DataW.trod_string hu h
      exact ⟨.str s, by simp [wtP, hu]; exact h2.2, by simp [repC]⟩
    · rename_i e hu
      simp only [Bool.and_eq_true, decide_eq_true_eq] at ht
      rcases DataW.trod_slice hu h with ⟨rfl, rfl⟩ | ⟨a, len, cap, elems, rest, m', rfl, rfl, rfl, _, hle, hcap, hlen, hel, _⟩
      · exact ⟨.sl false (P.cellsOf e) [], by simp [wtP, hu], by simp only [repC]; exact ⟨(fun y hy => by cases hy), none, 0, rfl, Nat.le_refl _, Nat.zero_le _, rfl, fun _ => rfl, fun h => absurd rfl h⟩⟩
      · obtain ⟨xs, us, h1, h2, h3, h4, h5, h6⟩ := rows_pl (n := n) ht.2 hlen (fun cs x hx _ => ih m' e ht.1 cs x hx) hel len (Nat.le_refl _)
        refine ⟨.sl true (P.cellsOf e) xs, by simp only [wtP, hu]; exact ⟨trivial, by simp, by omega, h2⟩, ?_⟩
        simp only [repC]
        refine ⟨h3, some a, cap, by rw [h1], by omega, hcap, rfl, by simp, fun hne => ?_⟩
        have hpos : 0 < us.length := by
          rw [h4]
          have : 0 < len := by rw [← h1]; exact List.length_pos_iff.2 hne
          exact Nat.mul_pos this ht.2
        have hc0 := h6 0 us[0] (List.getElem?_eq_getElem hpos)
        obtain ⟨b, o, spot⟩ := a
        have hspot : spot = none := by
          cases spot with
          | none => rfl
          | some z =>
            exfalso
            unfold World.cell? at hc0
            split at hc0
            · simp [Addr.add] at hc0
            · cases hc0
        subst hspot
        exact ⟨b, o, us, rfl, h5, fun j u hu => ⟨by have := h6 j u hu; rwa [Addr.add_lit] at this, trivial⟩⟩
    · rename_i k e hu
      simp only [Bool.and_eq_true, beq_iff_eq] at ht
      obtain ⟨elems, m', rfl, rfl, hl, hlen, hel⟩ := DataW.trod_array hu h
      obtain ⟨xs, h1, h2, h3, h4⟩ := drops_pl (n := n) (s := P.cellsOf e) hlen (by rw [hl, ht.2]) (fun cs x hx _ => ih m' e ht.1 cs x hx) hel k (Nat.le_refl _)
      rw [List.take_of_length_le (by rw [hl, ht.2]; exact Nat.le_refl _)] at h4
      exact ⟨.arr k (P.cellsOf e) xs, by simp only [wtP, hu]; exact ⟨trivial, trivial, h1, h2⟩, by simp only [repC]; exact ⟨h1, h3, h4⟩⟩
    · rename_i fs hu
      simp only [Bool.and_eq_true, beq_iff_eq, List.all_eq_true] at ht
      obtain ⟨⟨t1, t2⟩, t3⟩ := ht
      obtain ⟨elems, m', rfl, rfl, hl, hlen, hel⟩ := DataW.trod_struct hu h
      obtain ⟨xs, q1, q2⟩ := fields_pl (n := n) (m := m') (cs := cs) (fun t ht cs x hx => ih m' t ht cs x hx) fs.toList 0 t1 (fun j f hf => by
        have hj : j < fs.toList.length := (List.getElem?_eq_some_iff.1 hf).1
        have := t3 j (by simpa using hj)
        rw [hf] at this
        simpa using this) (by rw [hl, t2]; omega) (fun j f hf => by
        have hj : j < fs.toList.length := (List.getElem?_eq_some_iff.1 hf).1
        have := hel j f (by simpa using hf)
        rw [List.getElem?_eq_getElem (by rw [hlen]; simpa using hj)] at this
        exact ⟨_, this⟩)
      exact ⟨.agg xs, by simp only [wtP, hu]; exact q1, by simp only [repC]; simpa using q2⟩
    · cases ht
end
end Go.Ev
namespace Go.Ev
open Go.RowKit Go.WideShapes Go.ChangeShapes

def wtPs (P : Program) (n : Nat) : List TypeId → List Pl → Prop
  | [], [] => True
  | t :: ts, x :: xs => wtP P n t x ∧ wtPs P n ts xs
  | _, _ => False

section
variable {H : Type} {enc : TypeId × Value → H} {P : Program}

/-- the state that a call starts from -/
def sg0 (W : World) : Sg := { F := All1, B := fun b => W.heap.size ≤ b, m := [], H := [], w := W }
theorem sg0_ok (W : World) : Ok (sg0 W) where
  len := rfl
  inj i j b h := by simp [sg0] at h
  lt i b h := by simp [sg0] at h
  ent i e a h := by simp [sg0] at h
  new b h := h
  own i b h := by simp [sg0] at h
theorem sg0_stab (W : World) (b o : Nat) : (sg0 W).stab b o := ⟨.inl trivial, fun id e h => by simp [sg0] at h⟩

theorem repDV_of_cells {W : World} {x : Pl} {v : Value} {cs : List Value} (hx : repC W All1 x cs) (hc : v.cells.toList = cs) (hv : x.isAgg = true → ∃ a, v = .agg a) (hn : x.isAgg = false → cs = [v]) : repDV (sg0 W) (.p x) v := by
  have hm : repC W (sg0 W).stab x cs := repC_mono (fun b o u h _ => ⟨h, sg0_stab W b o⟩) x cs hx
  refine ⟨fun ha => ?_, fun ha => ?_⟩
  · obtain ⟨a, rfl⟩ := hv ha
    refine ⟨a, rfl, ?_⟩
    simp only [repD]
    have : a.toList = cs := by rw [← hc]; rfl
    rw [this]
    exact hm
  · simp only [repD]
    have e := hn ha
    rw [← e]
    exact hm

theorem wt_agg : ∀ {n : Nat} {t : TypeId} {x : Pl}, wtP P n t x → x.isAgg = isAggT P t
  | 0, _, _, h => by simp [wtP] at h
  | n + 1, t, x, h => by
    unfold wtP at h
    split at h <;> rename_i hu <;> first | (simp [Pl.isAgg, isAggT, hu]; done) | exact h.elim

theorem args_pl {W : World} {n : Nat} (hval : ∀ (t : TypeId) (v : Value), isAggT P t = true → Value.okWide P W .any 0 t v → ∃ a, v = .agg a) :
    ∀ (ts : List TypeId) (vs : List Value) (ds : List (DataW H)) (ps : List MemPlace), (∀ t, t ∈ ts → plainTy P n t = true) → (∀ (j : Nat) t v, ts[j]? = some t → vs[j]? = some v → (isAggT P t = true → ∃ a, v = .agg a) ∧ (isAggT P t = false → v.cells.toList = [v])) →
      DataW.TrodAll enc P W 0 (fun _ => true) true ts vs ds ps → ∃ xs, wtPs P n ts xs ∧ repVs (sg0 W) (xs.map .p) vs
  | [], [], [], _, _, _, _ => ⟨[], trivial, by simp [repVs]⟩
  | [], _ :: _, _, _, _, _, h => by simp [DataW.TrodAll] at h
  | [], [], _ :: _, _, _, _, h => by simp [DataW.TrodAll] at h
  | _ :: _, [], _, _, _, _, h => by simp [DataW.TrodAll] at h
  | _ :: _, _ :: _, [], _, _, _, h => by simp [DataW.TrodAll] at h
  | t :: ts, v :: vs, d :: ds, ps, hp, hv, h => by
    obtain ⟨p, q, ⟨fuel, h1⟩, h2, rfl⟩ := h
    obtain ⟨x, x1, x2⟩ := trod_pl n fuel t (hp t (List.mem_cons_self ..)) _ _ h1
    obtain ⟨xs, xs1, xs2⟩ := args_pl hval ts vs ds q (fun u hu => hp u (List.mem_cons_of_mem _ hu)) (fun j u w' hj hw => hv (j + 1) u w' hj hw) h2
    obtain ⟨v1, v2⟩ := hv 0 t v rfl rfl
    refine ⟨x :: xs, ⟨x1, xs1⟩, ?_⟩
    simp only [List.map_cons, repVs]
    have ha := wt_agg x1
    exact ⟨v, vs, rfl, repDV_of_cells x2 rfl (fun e => v1 (by rw [← ha]; exact e)) (fun e => v2 (by rw [← ha]; exact e)), xs2⟩

theorem trodAll_stays {W W' : World} {sp' : Nat → Bool} {n : Nat} : ∀ (ts : List TypeId) (vs : List Value) (ds : List (DataW H)) (ps : List MemPlace), (∀ t, t ∈ ts → plainTy P n t = true) →
    DataW.TrodAll enc P W 0 (fun _ => true) true ts vs ds ps → (∀ p ∈ ps, W.sameAt W' p) → (∀ p ∈ ps, sp' p.block = true) → DataW.TrodAll enc P W' 0 sp' true ts vs ds ps
  | [], [], [], _, _, h, _, _ => h
  | [], _ :: _, _, _, _, h, _, _ => by simp [DataW.TrodAll] at h
  | [], [], _ :: _, _, _, h, _, _ => by simp [DataW.TrodAll] at h
  | _ :: _, [], _, _, _, h, _, _ => by simp [DataW.TrodAll] at h
  | _ :: _, _ :: _, [], _, _, h, _, _ => by simp [DataW.TrodAll] at h
  | t :: ts, v :: vs, d :: ds, ps, hp, h, hs, hb => by
    obtain ⟨p, q, ⟨fuel, h1⟩, h2, rfl⟩ := h
    refine ⟨p, q, ⟨fuel, ?_⟩, trodAll_stays ts vs ds q (fun u hu => hp u (List.mem_cons_of_mem _ hu)) h2 (fun z hz => hs z (List.mem_append_right _ hz)) (fun z hz => hb z (List.mem_append_right _ hz)), rfl⟩
    exact DataW.trod_stays (plainTy_kids P) (fun {t e} ⟨n, hn⟩ hu => by
      cases n with
      | zero => simp [plainTy] at hn
      | succ n => simp [plainTy, hu] at hn; exact hn.2) (by simp) ⟨n, hp t (List.mem_cons_self ..)⟩ h1 (fun z hz => hs z (List.mem_append_left _ hz)) (fun z hz => hb z (List.mem_append_left _ hz))

theorem below_of_to {W : World} {σ' : Sg} (h : To (sg0 W) σ') : Below W.heap.size W σ'.w :=
  ⟨h.os, h.tape, h.output, h.size, fun b hb => h.block b hb (fun id => by simp [sg0])⟩

theorem post_of_below' {f : Func} {s : ChangeSpec} {apart fresh handsOn again : Bool} {W W' : World} {args : Array Value} {v : Value} {ds gs : List (DataW H)} {before pa pv : List MemPlace}
    (hW : DataW.Whole enc P f.params.toList s.vars apart W args.toList ds gs before)
    (hres : ∀ (b : Nat) (sp : Nat → Bool) (hd : Bool), DataW.TrodAll enc P W' b sp hd f.resultTypes.toList (v.resultList f.resultTypes.size) (s.fn H (ds ++ gs)).results [])
    (hargs : ∀ sp : Nat → Bool, (∀ p ∈ before, sp p.block = true) → DataW.TrodAll enc P W' 0 sp true f.params.toList args.toList (s.fn H (ds ++ gs)).args pa)
    (hvars : ∀ sp : Nat → Bool, (∀ p ∈ before, sp p.block = true) → DataW.TrodVars enc P W' sp s.vars (s.fn H (ds ++ gs)).vars pv)
    (hps : before = pa ++ pv) (hb : Below W.heap.size W W')
    (hok : ∀ (j : Nat) (t : TypeId) (r : Value), f.resultTypes[j]? = some t → (v.resultList f.resultTypes.size)[j]? = some r → Value.okWide P W' .any 0 t r) :
    s.post enc P f apart fresh handsOn again W args v W' := by
  have hlt : ∀ p ∈ before, p.block < W.heap.size := fun p hp => hW.lt p hp
  have hold : ∀ p ∈ before, (fun b => decide (b < W.heap.size)) p.block = true := fun p hp => by simpa using hlt p hp
  refine ⟨ds, gs, before, [], pa, pv, hW, hres _ _ _, hargs _ hold, hvars _ hold, World.keptBut_mono (fun p hp => ⟨hp, ?_⟩) (hb.frame (· ∈ before)), fun _ => ?_⟩
  · rw [hps, List.mem_append] at hp
    exact Or.inr hp
  · obtain ⟨_, _, _, _, _, hz, hn⟩ := hW
    refine ⟨hok, _, _, ([] ++ pa) ++ pv, ⟨[] ++ pa, pv, trodAll_append (hargs _ (fun _ _ => rfl)) (hres _ _ _), hvars _ (fun _ _ => rfl), rfl, ?_, ?_⟩, ?_⟩
    · intro b off hp
      have hin : MemPlace.cell b off ∈ before := by rw [hps]; simpa using hp
      rw [hb.frozen (hlt _ hin)]
      exact hz b off hin
    · intro ha
      have := hn ha
      rw [hps] at this
      simpa using this
    · intro p hp _
      rw [hps]
      simpa using hp

/-- a law: from its contract, what its row asks of each call -/
theorem law_contract {f : FuncId} {fn : Func} {s : ChangeSpec} {n : Nat} {tb : TypeId} (hr : fn.resultTypes = #[tb]) (ht : P.underlying tb = some .bool) (hv : s.vars = [])
    (hs : ∀ ds : List (DataW H), ds.length = fn.params.toList.length → s.fn H ds = { results := [.lit (.bool true)], args := ds }) (hp : ∀ t, t ∈ fn.params.toList → plainTy P n t = true)
    (W : World) (base : Nat) (args : Array Value) (ds gs : List (DataW H)) (before : List MemPlace)
    (hval : ∀ (j : Nat) t v, fn.params[j]? = some t → args[j]? = some v → Value.okWide P W .any base t v) (hW : DataW.Whole enc P fn.params.toList s.vars false W args.toList ds gs before)
    (hc : ∀ xs : List Pl, wtPs P n fn.params.toList xs → repVs (sg0 W) (xs.map .p) args.toList → Con P f (xs.map .p) [] (.p (.bool true)) []) :
    Calls P f args W fun e W' => ∃ v, e = .returned v ∧ s.post enc P fn false true false false W args v W' := by
  have hW' := hW
  obtain ⟨p, q, hA, hV, rfl, hfz, hnd⟩ := hW
  rw [hv] at hV
  obtain ⟨rfl, rfl⟩ : gs = [] ∧ q = [] := by
    cases gs with
    | nil => exact ⟨rfl, hV⟩
    | cons g r => simp [DataW.TrodVars] at hV
  have hlen := trodAll_length hA
  obtain ⟨xs, x1, x2⟩ := args_pl (enc := enc) (P := P) (W := W) (n := n) (fun t v ha hok => by
      unfold Value.okWide at hok
      unfold isAggT at ha
      split at hok
      · obtain ⟨cs, rfl, _⟩ := hok; exact ⟨cs, rfl⟩
      · obtain ⟨cs, rfl, _⟩ := hok; exact ⟨cs, rfl⟩
      · rename_i h1 h2
        split at ha
        · rename_i fs hu; exact absurd hu (h1 fs)
        · rename_i k e hu; exact absurd hu (h2 k e)
        · cases ha) fn.params.toList args.toList ds p hp (fun j t v hj hvv => by
      have hok := hval j t v (by simpa using hj) (by simpa using hvv)
      refine ⟨fun ha => ?_, fun ha => ?_⟩
      · unfold Value.okWide at hok
        unfold isAggT at ha
        split at hok
        · obtain ⟨cs, rfl, _⟩ := hok; exact ⟨cs, rfl⟩
        · obtain ⟨cs, rfl, _⟩ := hok; exact ⟨cs, rfl⟩
        · rename_i h1 h2
          split at ha
          · rename_i fs hu; exact absurd hu (h1 fs)
          · rename_i k e hu; exact absurd hu (h2 k e)
          · cases ha
      · obtain ⟨m, hm⟩ : ∃ m, plainTy P (m + 1) t = true := by
          have := hp t (List.mem_of_getElem? hj)
          cases n with
          | zero => simp [plainTy] at this
          | succ n => exact ⟨n, this⟩
        unfold Value.okWide at hok
        unfold plainTy at hm
        unfold isAggT at ha
        split at hm <;> rename_i hu <;> simp only [hu] at hok ha
        all_goals first
          | (cases ha; done)
          | (cases hm; done)
          | (unfold Cell.okWide Cell.ok at hok; simp only [hu] at hok; cases v <;> first | rfl | (simp at hok; done))) hA
  have hcall := hc xs x1 x2 (sg0 W) args.toList (sg0_ok W) rfl x2
  rw [Array.toArray_toList] at hcall
  refine Calls.mono hcall ?_
  rintro e W' ⟨v, σ', rfl, rfl, hH, hto, hok, hrep⟩
  have hbv : v = .bool true := by simpa [repDV, Dv.isAgg, Pl.isAgg, repD, repC] using hrep
  subst hbv
  have hb := below_of_to hto
  simp only [List.append_nil] at hW'
  have hlt := hW'.lt
  have hsame : ∀ z ∈ p, W.sameAt σ'.w z := by
    intro z hz
    have hz' := hlt z hz
    cases z with
    | cell b o => exact hb.cell (p := ⟨b, o, none⟩) hz'
    | map b => exact hb.block b hz'
  have hfn := hs ds hlen.2
  refine ⟨_, rfl, post_of_below' (pa := p) (pv := []) hW' (fun b sp hd => ?_) (fun sp h => ?_) (fun sp h => ?_) (by simp) hb ?_⟩
  · rw [List.append_nil, hfn, hr]
    exact trodAll_cons_mk (shut_bool ht _) trodAll_mk0
  · rw [List.append_nil, hfn]
    exact trodAll_stays fn.params.toList args.toList ds p hp hA hsame h
  · rw [List.append_nil, hfn, hv]
    rfl
  · intro j t r hj hjr
    rw [hr] at hj hjr
    cases j with
    | zero =>
      simp at hj
      subst hj
      have : r = .bool true := by simpa [Value.resultList] using hjr.symm
      subst this
      exact okWide_bool_mk ht _
    | succ j => simp at hj
end
end Go.Ev
namespace Go.Ev
theorem sl_len {H : Type} {enc : TypeId × Value → H} {P : Program} {w : World} {base : Nat} {sp : Nat → Bool} {held : Bool} {t e : TypeId} (hu : P.underlying t = some (.slice e)) {v : Value} {d : DataW H} {p : List MemPlace}
    (h : DataW.Trod enc P w base sp held t v d p) {σ : Sg} {nn : Bool} {s : Nat} {xs : List Pl} (hr : repDV σ (.p (.sl nn s xs)) v) : xs = [] ∨ ∃ elems rest, d = .slice elems rest ∧ elems.length = xs.length := by
  obtain ⟨_, A, c, rfl, _⟩ := repDV_sl hr
  obtain ⟨fuel, h⟩ := h
  rcases DataW.trod_slice hu h with ⟨h1, _⟩ | ⟨a, len, cap, elems, rest, m, _, h1, h2, _, _, _, h3, _⟩
  · left
    have : Value.slice A xs.length c = Value.slice none 0 0 := by simpa [Value.cells] using h1
    injection this with _ e2 _
    exact List.eq_nil_of_length_eq_zero e2
  · right
    have : Value.slice A xs.length c = Value.slice (some a) len cap := by simpa [Value.cells] using h1
    injection this with _ e2 _
    simp only [Prod.mk.injEq] at h2
    exact ⟨_, _, h2.1, by simp [h3, e2]⟩
end Go.Ev
