/- The evaluator, part G: why it is right: other numbers of entries; a world that has grown. -/
import Derived.Test.YtpgogpohkldhaaaEvF
set_option linter.unusedVariables false
set_option linter.unusedSimpArgs false
namespace Go.Ev

mutual
theorem rn_size {f : Nat → Option Nat} : ∀ (d d' : Dv), d.rn f = some d' → d'.size = d.size ∧ d'.isAgg = d.isAgg
  | .p x, d', h => by simp only [Dv.rn, Option.some.injEq] at h; subst h; exact ⟨rfl, rfl⟩
  | .elem x, d', h => by simp only [Dv.rn, Option.some.injEq] at h; subst h; exact ⟨rfl, rfl⟩
  | .ref id off path, d', h => by simp only [Dv.rn, Option.map_eq_some_iff] at h; obtain ⟨i, _, rfl⟩ := h; exact ⟨rfl, rfl⟩
  | .own id nn s xs, d', h => by simp only [Dv.rn, Option.map_eq_some_iff] at h; obtain ⟨i, _, rfl⟩ := h; exact ⟨rfl, rfl⟩
  | .view id off path s lo n, d', h => by simp only [Dv.rn, Option.map_eq_some_iff] at h; obtain ⟨i, _, rfl⟩ := h; exact ⟨rfl, rfl⟩
  | .agg xs, d', h => by
    simp only [Dv.rn, Option.map_eq_some_iff] at h
    obtain ⟨ys, h1, rfl⟩ := h
    exact ⟨by simp only [Dv.size]; exact rns_sizes xs ys h1, rfl⟩
  | .arr n s xs, d', h => by simp only [Dv.rn, Option.map_eq_some_iff] at h; obtain ⟨ys, _, rfl⟩ := h; exact ⟨rfl, rfl⟩
  | .fn g cap, d', h => by simp only [Dv.rn, Option.map_eq_some_iff] at h; obtain ⟨ys, _, rfl⟩ := h; exact ⟨rfl, rfl⟩
  | .iface t x, d', h => by simp only [Dv.rn, Option.map_eq_some_iff] at h; obtain ⟨ys, _, rfl⟩ := h; exact ⟨rfl, rfl⟩
  | .tup xs, d', h => by simp only [Dv.rn, Option.map_eq_some_iff] at h; obtain ⟨ys, _, rfl⟩ := h; exact ⟨rfl, rfl⟩
  | .mp id, d', h => by simp only [Dv.rn, Option.map_eq_some_iff] at h; obtain ⟨ys, _, rfl⟩ := h; exact ⟨rfl, rfl⟩
  | .junk, d', h => by simp only [Dv.rn, Option.some.injEq] at h; subst h; exact ⟨rfl, rfl⟩
theorem rns_sizes {f : Nat → Option Nat} : ∀ (ds ds' : List Dv), Dv.rns f ds = some ds' → Dv.sizes ds' = Dv.sizes ds
  | [], ds', h => by simp only [Dv.rns, Option.some.injEq] at h; subst h; rfl
  | x :: r, ds', h => by
    simp only [Dv.rns] at h
    split at h
    · rename_i y ys h1 h2
      cases h
      simp only [Dv.sizes]
      rw [(rn_size x y h1).1, rns_sizes r ys h2]
    · cases h
end

theorem rns_length {f : Nat → Option Nat} : ∀ {ds ds' : List Dv}, Dv.rns f ds = some ds' → ds'.length = ds.length
  | [], ds', h => by simp only [Dv.rns, Option.some.injEq] at h; subst h; rfl
  | x :: r, ds', h => by
    simp only [Dv.rns] at h
    split at h
    · rename_i y ys h1 h2
      cases h
      simp [rns_length h2]
    · cases h
theorem rns_all {f : Nat → Option Nat} {s : Nat} : ∀ {ds ds' : List Dv}, Dv.rns f ds = some ds' → (∀ x, x ∈ ds → x.size = s) → ∀ x, x ∈ ds' → x.size = s
  | [], ds', h, _ => by simp only [Dv.rns, Option.some.injEq] at h; subst h; intro x hx; cases hx
  | x :: r, ds', h, ha => by
    simp only [Dv.rns] at h
    split at h
    · rename_i y ys h1 h2
      cases h
      intro z hz
      cases hz with
      | head => rw [(rn_size x y h1).1]; exact ha x (List.mem_cons_self ..)
      | tail _ hz => exact rns_all h2 (fun w hw => ha w (List.mem_cons_of_mem _ hw)) z hz
    · cases h

/-- the same world, the entries under other numbers -/
structure Rn (f : Nat → Option Nat) (σ σ' : Sg) : Prop where
  w : σ'.w = σ.w
  stab : ∀ (b o : Nat) (v : Value), σ.w.cell? ⟨b, o, none⟩ = some v → σ.stab b o → σ'.stab b o
  m : ∀ (id id' : Nat), f id = some id' → ∀ (a : Option Nat), σ.m[id]? = some a → σ'.m[id']? = some a
  H : ∀ (id id' : Nat), f id = some id' → ∀ (e : Ent), σ.H[id]? = some e → ∃ e', σ'.H[id']? = some e' ∧ e.rn f = some e'

theorem Rn.cells {f : Nat → Option Nat} {σ σ' : Sg} (h : Rn f σ σ') : ∀ (b o : Nat) (v : Value), σ.w.cell? ⟨b, o, none⟩ = some v → σ.stab b o → σ'.w.cell? ⟨b, o, none⟩ = some v ∧ σ'.stab b o :=
  fun b o v h1 h2 => ⟨by rw [h.w]; exact h1, h.stab b o v h1 h2⟩
theorem Rn.var {f : Nat → Option Nat} {σ σ' : Sg} (h : Rn f σ σ') {id id' : Nat} (hf : f id = some id') (hv : ∃ d st, σ.H[id]? = some (.var d st)) : ∃ d st, σ'.H[id']? = some (.var d st) := by
  obtain ⟨d, st, hv⟩ := hv
  obtain ⟨e', h1, h2⟩ := h.H id id' hf _ hv
  simp only [Ent.rn, Option.map_eq_some_iff] at h2
  obtain ⟨d', _, rfl⟩ := h2
  exact ⟨d', st, h1⟩
theorem Rn.map {f : Nat → Option Nat} {σ σ' : Sg} (h : Rn f σ σ') {id id' : Nat} (hf : f id = some id') (hv : ∃ t kvs, σ.H[id]? = some (.map t kvs)) : ∃ t kvs, σ'.H[id']? = some (.map t kvs) := by
  obtain ⟨d, st, hv⟩ := hv
  obtain ⟨e', h1, h2⟩ := h.H id id' hf _ hv
  simp only [Ent.rn, Option.some.injEq] at h2
  subst h2
  exact ⟨d, st, h1⟩
theorem Rn.front {f : Nat → Option Nat} {σ σ' : Sg} (h : Rn f σ σ') {id id' s len c : Nat} {A : Option Addr} (hf : f id = some id') (hv : ownFront σ id s len A c) : ownFront σ' id' s len A c := by
  obtain ⟨e, ys, h1, h2, h3⟩ := hv
  obtain ⟨e', h4, h5⟩ := h.H id id' hf _ h1
  simp only [Ent.rn, Option.some.injEq] at h5
  subst h5
  refine ⟨e, ys, h4, h2, fun hl => ?_⟩
  rcases h3 hl with ⟨h6, h7⟩ | ⟨b, cur, h6, h7, h8, h9⟩
  · exact .inl ⟨h.m _ _ hf _ h6, h7⟩
  · exact .inr ⟨b, cur, h.m _ _ hf _ h6, h7, by rw [h.w]; exact h8, h9⟩

mutual
theorem repD_rn {f : Nat → Option Nat} {σ σ' : Sg} (h : Rn f σ σ') : ∀ (d d' : Dv) (vs : List Value), d.rn f = some d' → repD σ d vs → repD σ' d' vs
  | .p x, d', vs, hd, hr => by
    simp only [Dv.rn, Option.some.injEq] at hd
    subst hd
    simp only [repD] at hr ⊢
    exact repC_mono h.cells x vs hr
  | .elem x, d', vs, hd, hr => by
    simp only [Dv.rn, Option.some.injEq] at hd
    subst hd
    simp only [repD] at hr ⊢
    obtain ⟨b, o, us, h1, h2, h3⟩ := hr
    exact ⟨b, o, us, h1, repC_mono h.cells x us h2, h3.mono h.cells⟩
  | .ref id off path, d', vs, hd, hr => by
    simp only [Dv.rn, Option.map_eq_some_iff] at hd
    obtain ⟨i, hf, rfl⟩ := hd
    simp only [repD] at hr ⊢
    obtain ⟨b, h1, h2, h3⟩ := hr
    exact ⟨b, h.m _ _ hf _ h1, h.var hf h2, h3⟩
  | .own id nn s xs, d', vs, hd, hr => by
    simp only [Dv.rn, Option.map_eq_some_iff] at hd
    obtain ⟨i, hf, rfl⟩ := hd
    simp only [repD] at hr ⊢
    obtain ⟨h1, A, c, h2, h3, h4, h5, h6, h7, h8⟩ := hr
    refine ⟨h1, A, c, h2, h3, h4, h5, h6, fun hne => ?_, h.front hf h8⟩
    obtain ⟨b, o, us, e1, e2, e3⟩ := h7 hne
    exact ⟨b, o, us, e1, repCs_mono h.cells xs us e2, e3.mono h.cells⟩
  | .view id off path s lo n, d', vs, hd, hr => by
    simp only [Dv.rn, Option.map_eq_some_iff] at hd
    obtain ⟨i, hf, rfl⟩ := hd
    simp only [repD] at hr ⊢
    obtain ⟨b, c, a, h1, h2, h3⟩ := hr
    exact ⟨b, c, a, h.m _ _ hf _ h1, h.var hf h2, h3⟩
  | .agg xs, d', vs, hd, hr => by
    simp only [Dv.rn, Option.map_eq_some_iff] at hd
    obtain ⟨ys, hf, rfl⟩ := hd
    simp only [repD] at hr ⊢
    exact repDs_rn h xs ys vs hf hr
  | .arr n s xs, d', vs, hd, hr => by
    simp only [Dv.rn, Option.map_eq_some_iff] at hd
    obtain ⟨ys, hf, rfl⟩ := hd
    simp only [repD] at hr ⊢
    exact ⟨by rw [rns_length hf]; exact hr.1, rns_all hf hr.2.1, repDs_rn h xs ys vs hf hr.2.2⟩
  | .fn g cap, d', vs, hd, hr => by
    simp only [Dv.rn, Option.map_eq_some_iff] at hd
    obtain ⟨ys, hf, rfl⟩ := hd
    simp only [repD] at hr ⊢
    obtain ⟨cs, h1, h2⟩ := hr
    exact ⟨cs, h1, repVs_rn h cap ys _ hf h2⟩
  | .iface t x, d', vs, hd, hr => by
    simp only [Dv.rn, Option.map_eq_some_iff] at hd
    obtain ⟨y, hf, rfl⟩ := hd
    simp only [repD] at hr ⊢
    obtain ⟨v, h1, h2, h3⟩ := hr
    refine ⟨v, h1, fun ha => ?_, fun ha => repD_rn h x y _ hf (h3 (by rw [← (rn_size x y hf).2]; exact ha))⟩
    obtain ⟨cs, e1, e2⟩ := h2 (by rw [← (rn_size x y hf).2]; exact ha)
    exact ⟨cs, e1, repD_rn h x y _ hf e2⟩
  | .tup xs, d', vs, hd, hr => by
    simp only [Dv.rn, Option.map_eq_some_iff] at hd
    obtain ⟨ys, hf, rfl⟩ := hd
    simp only [repD] at hr ⊢
    obtain ⟨cs, h1, h2⟩ := hr
    exact ⟨cs, h1, repVs_rn h xs ys _ hf h2⟩
  | .mp id, d', vs, hd, hr => by
    simp only [Dv.rn, Option.map_eq_some_iff] at hd
    obtain ⟨i, hf, rfl⟩ := hd
    simp only [repD] at hr ⊢
    obtain ⟨b, h1, h2, h3⟩ := hr
    exact ⟨b, h.m _ _ hf _ h1, h.map hf h2, h3⟩
  | .junk, d', vs, hd, hr => by
    simp only [Dv.rn, Option.some.injEq] at hd
    subst hd
    simpa [repD] using hr
theorem repDs_rn {f : Nat → Option Nat} {σ σ' : Sg} (h : Rn f σ σ') : ∀ (ds ds' : List Dv) (vs : List Value), Dv.rns f ds = some ds' → repDs σ ds vs → repDs σ' ds' vs
  | [], ds', vs, hd, hr => by
    simp only [Dv.rns, Option.some.injEq] at hd
    subst hd
    simpa [repDs] using hr
  | x :: xs, ds', vs, hd, hr => by
    simp only [Dv.rns] at hd
    split at hd
    · rename_i y ys h1 h2
      cases hd
      simp only [repDs] at hr ⊢
      obtain ⟨us, us', h3, h4, h5⟩ := hr
      exact ⟨us, us', h3, repD_rn h x y us h1 h4, repDs_rn h xs ys us' h2 h5⟩
    · cases hd
theorem repVs_rn {f : Nat → Option Nat} {σ σ' : Sg} (h : Rn f σ σ') : ∀ (ds ds' : List Dv) (vs : List Value), Dv.rns f ds = some ds' → repVs σ ds vs → repVs σ' ds' vs
  | [], ds', vs, hd, hr => by
    simp only [Dv.rns, Option.some.injEq] at hd
    subst hd
    simpa [repVs] using hr
  | x :: xs, ds', vs, hd, hr => by
    simp only [Dv.rns] at hd
    split at hd
    · rename_i y ys h1 h2
      cases hd
      simp only [repVs] at hr ⊢
      obtain ⟨v, vs', h3, ⟨h4, h5⟩, h6⟩ := hr
      refine ⟨v, vs', h3, ⟨fun ha => ?_, fun ha => repD_rn h x y _ h1 (h5 (by rw [← (rn_size x y h1).2]; exact ha))⟩, repVs_rn h xs ys vs' h2 h6⟩
      obtain ⟨cs, e1, e2⟩ := h4 (by rw [← (rn_size x y h1).2]; exact ha)
      exact ⟨cs, e1, repD_rn h x y _ h1 e2⟩
    · cases hd
end
theorem repDV_rn {f : Nat → Option Nat} {σ σ' : Sg} (h : Rn f σ σ') {d d' : Dv} {v : Value} (hd : d.rn f = some d') (hr : repDV σ d v) : repDV σ' d' v := by
  obtain ⟨h4, h5⟩ := hr
  refine ⟨fun ha => ?_, fun ha => repD_rn h d d' _ hd (h5 (by rw [← (rn_size d d' hd).2]; exact ha))⟩
  obtain ⟨cs, e1, e2⟩ := h4 (by rw [← (rn_size d d' hd).2]; exact ha)
  exact ⟨cs, e1, repD_rn h d d' _ hd e2⟩

/-! ### The world has grown, the entries are as they were -/
theorem cell_block_lt {w : World} {b o : Nat} {v : Value} (h : w.cell? ⟨b, o, none⟩ = some v) : b < w.heap.size := World.block_lt_of_cell? w ⟨b, o, none⟩ h

theorem entOk_leaf {σ σ' : Sg} (h : Leaf σ σ') {a : Option Nat} {e : Ent} (hb : ∀ b, a = some b → σ'.w.heap[b]? = σ.w.heap[b]?) (he : entOk σ a e) : entOk σ' a e := by
  cases e with
  | var d st =>
    obtain ⟨b, cs, t, rfl, h1, h2, h3⟩ := he
    exact ⟨b, cs, t, rfl, (hb b rfl).trans h1, repD_leaf h d _ h2, h3⟩
  | log s e xs =>
    rcases he with ⟨rfl, h1⟩ | ⟨b, cur, cap, rfl, h1, h2, h3, h4, h5, h6⟩
    · exact .inl ⟨rfl, h1⟩
    · exact .inr ⟨b, cur, cap, rfl, (hb b rfl).trans h1, h2, h3, h4, h5, repCs_mono h.cells xs _ h6⟩
  | map t kvs => exact he
  | gone => exact he

theorem grow_to {σ : Sg} (ok : Ok σ) {w' : World} (hg : σ.w.grownBy w' none) : To σ { σ with w := w' } ∧ Ok { σ with w := w' } := by
  have hb : ∀ b, b < σ.w.heap.size → w'.heap[b]? = σ.w.heap[b]? := fun b hb => hg.block b hb (by simp)
  have hm : ∀ (id b : Nat), σ.m[id]? = some (some b) → w'.heap[b]? = σ.w.heap[b]? := fun id b h => hb b (ok.lt id b h)
  have leaf : Leaf σ { σ with w := w' } := by
    refine ⟨fun b o v h1 h2 => ⟨?_, h2⟩, fun id b h1 h2 => ⟨h1, h2⟩, fun id s len A c h1 => ?_, fun id b h1 h2 => ⟨h1, h2⟩⟩
    · show w'.cell? ⟨b, o, none⟩ = some v
      rw [World.cell?_of_block (w := σ.w) (hb b (cell_block_lt h1))]
      exact h1
    · obtain ⟨e, ys, h2, h3, h4⟩ := h1
      refine ⟨e, ys, h2, h3, fun hl => ?_⟩
      rcases h4 hl with h5 | ⟨b, cur, h5, h6, h7, h8⟩
      · exact .inl h5
      · exact .inr ⟨b, cur, h5, h6, (hm id b h5).trans h7, h8⟩
  refine ⟨⟨leaf, rfl, rfl, hg.os, hg.tape, hg.output, hg.size, fun b h1 _ => hb b h1, fun id b h => .inl h, Nat.le_refl _⟩, ⟨ok.len, ok.inj, fun i b h => Nat.lt_of_lt_of_le (ok.lt i b h) hg.size, fun i e a h1 h2 => ?_, fun b h => ok.new b (Nat.le_trans hg.size h), ok.own⟩⟩
  exact entOk_leaf leaf (fun b hb => hm i b (by rw [h2, hb])) (ok.ent i e a h1 h2)

/-- a cell of a block that is new to the entries stays -/
theorem stab_new {σ : Sg} (ok : Ok σ) {b o : Nat} (h : σ.B b) (hn : ∀ (id : Nat), σ.m[id]? ≠ some (some b)) : σ.stab b o :=
  ⟨.inr h, fun id _ he _ => absurd he (hn id)⟩

def OpOk (P : Program) (o : Oper) (a : Act) (σ : Sg) (d : Dv) (H' : List Ent) : Prop :=
  ∀ (K : Act → World → Prop) (Q : Exit → Act → World → Prop), (∀ v σ', σ'.H = H' → To σ σ' → Ok σ' → repDV σ' d v → K (a.put o.dst v) σ'.w) → o.wp P a σ.w K Q

theorem opOk_value {P : Program} {o : Oper} {a : Act} {σ : Sg} {d : Dv} {v : Value} (ok : Ok σ) (hr : (execOp a.eval o).run P σ.w = .ok (.value v) σ.w) (hd : repDV σ d v) : OpOk P o a σ d σ.H := by
  intro K Q h
  unfold Oper.wp
  rw [hr]
  exact h v σ rfl (To.refl σ) ok hd

theorem opOk_step {P : Program} {o : Oper} {a : Act} {σ σ' : Sg} {d : Dv} {v : Value} (hr : (execOp a.eval o).run P σ.w = .ok (.value v) σ'.w) (to : To σ σ') (ok : Ok σ') (hd : repDV σ' d v) : OpOk P o a σ d σ'.H := by
  intro K Q h
  unfold Oper.wp
  rw [hr]
  exact h v σ' rfl to ok hd
end Go.Ev
