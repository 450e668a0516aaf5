/- The evaluator, part X: small tools for contracts. -/
import Derived.Test.YtpgogpohkldhaaaEvW
set_option linter.unusedVariables false
set_option linter.unusedSimpArgs false
namespace Go.Ev

theorem con_cast {P : Program} {g : FuncId} {args : List Dv} {H H1 H' : List Ent} {r r' : Dv} (h : Con P g args H r H1) (e : r = r') (eH : H1 = H') : Con P g args H r' H' := by
  subst e; subst eH; exact h

/-- a contract, of which the result and the entries are said in other words -/
theorem con_ev {P : Program} {g : FuncId} {args : List Dv} {H H1 H' : List Ent} {r r' : Dv} (hs : List Hint) (keep : List Nat) (C : List Prop) (h : evF P g args H hs keep = some (C, r, H1)) (hc : AllP C) (e : r = r') (eH : H1 = H') : Con P g args H r' H' :=
  con_cast (con_of_ev h hc) e eH

/-- a round of a loop that goes on -/
theorem round_ev {P : Program} {body : Code} {ts ts1 ts2 ts' : List Dv} {H H1 H2 H' : List Ent} {ex : Ex} (hs : List Hint) (mask : List Nat) (C : List Prop) (h : ev P body ts H hs = some (C, .normal, ts1, H1, [])) (hc : AllP C) (e : junkAll ts1 mask = ts2) (eH : H1 = H2)
    (k : LRuns P body ts2 H2 ex ts' H') : LRuns P body ts H ex ts' H' := by
  subst eH
  exact loop_next mask (runs_of_ev h hc) e k

/-- a round of a loop that ends it -/
theorem stop_ev {P : Program} {body : Code} {ts ts1 ts' : List Dv} {H H1 H' : List Ent} {ex : Ex} (hs : List Hint) (mask : List Nat) (C : List Prop) (h : ev P body ts H hs = some (C, ex, ts1, H1, [])) (hc : AllP C) (hne : ex ≠ .normal) (e : junkAll ts1 mask = ts') (eH : H1 = H') :
    LRuns P body ts H ex ts' H' := by
  subst eH; subst e
  refine loop_stop hne ?_
  intro σ a ok hH hrep
  refine wp_mono (runs_of_ev h hc σ a ok hH hrep) ?_
  rintro e a' w' ⟨rfl, σ', h1, h2, h3, h4, h5⟩
  exact ⟨rfl, σ', h1, h2, h3, h4, junkAll_rep h5⟩

/-- where a loop starts from, in other words -/
theorem lruns_cast {P : Program} {body : Code} {ts ts2 ts' : List Dv} {H H2 H' : List Ent} {ex : Ex} (k : LRuns P body ts2 H2 ex ts' H') (e : ts2 = ts) (eH : H2 = H) : LRuns P body ts H ex ts' H' := by
  subst e; subst eH; exact k

theorem u8_ofNat {n : Nat} (h : n < 256) : u8 (UInt8.ofNat n) = .int .u8 (n : Int) := by
  simp [u8, Nat.mod_eq_of_lt h]
end Go.Ev
namespace Go.Ev
/-- a loop that counts up -/
theorem lruns_up {P : Program} {body : Code} {ts' : List Dv} {H' : List Ent} {ex : Ex} (S : Nat → List Dv) (HH : Nat → List Ent) (n : Nat)
    (step : ∀ k, k < n → LRuns P body (S (k + 1)) (HH (k + 1)) ex ts' H' → LRuns P body (S k) (HH k) ex ts' H') (stop : LRuns P body (S n) (HH n) ex ts' H') : ∀ m k, k + m = n → LRuns P body (S k) (HH k) ex ts' H'
  | 0, k, h => by
    have : k = n := by omega
    subst this
    exact stop
  | m + 1, k, h => step k (by omega) (lruns_up S HH n step stop m (k + 1) (by omega))

/-- slices of bytes, laid behind one another -/
def cat (ls : List (Bool × List UInt8)) (k : Nat) : List UInt8 := ((ls.take k).map (·.2)).flatten
def catsP (ls : List (Bool × List UInt8)) : List Pl := ls.map fun p => bytesP p.1 p.2
theorem cat_zero (ls : List (Bool × List UInt8)) : cat ls 0 = [] := by simp [cat]
theorem cat_succ {ls : List (Bool × List UInt8)} {k : Nat} {p : Bool × List UInt8} (h : ls[k]? = some p) : cat ls (k + 1) = cat ls k ++ p.2 := by
  unfold cat
  rw [List.take_add_one, h]
  simp
theorem cat_le (ls : List (Bool × List UInt8)) (k m : Nat) (h : k ≤ m) : (cat ls k).length ≤ (cat ls m).length := by
  unfold cat
  have : ls.take k = (ls.take m).take k := by rw [List.take_take]; congr 1; omega
  rw [this]
  generalize ls.take m = l
  simp only [List.length_flatten, List.map_map]
  have e : (l.map (List.length ∘ fun x => x.2)) = ((l.take k).map (List.length ∘ fun x => x.2)) ++ ((l.drop k).map (List.length ∘ fun x => x.2)) := by
    rw [← List.map_append, List.take_append_drop]
  rw [e, List.sum_append]
  omega
theorem catsP_get {ls : List (Bool × List UInt8)} {k : Nat} {p : Bool × List UInt8} (h : ls[k]? = some p) : (catsP ls)[k]? = some (bytesP p.1 p.2) := by simp [catsP, h]
theorem catsP_len (ls : List (Bool × List UInt8)) : (catsP ls).length = ls.length := by simp [catsP]
end Go.Ev
namespace Go.Ev
theorem cat_nn {ls : List (Bool × List UInt8)} {k : Nat} {p : Bool × List UInt8} (hk : k < ls.length) (hx : ls[k]? = some p) : (decide (0 < (cat ls ls.length).length) || !(p.2.map u8).isEmpty) = decide (0 < (cat ls ls.length).length) := by
  have h1 := cat_le ls (k + 1) ls.length hk
  rw [cat_succ hx] at h1
  cases hp : p.2 with
  | nil => simp
  | cons x r =>
    rw [hp] at h1
    simp at h1
    have : 0 < (cat ls ls.length).length := by omega
    simp [this]
end Go.Ev
