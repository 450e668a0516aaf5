/- The evaluator, part W: a function's contract out of one evaluation. -/
import Derived.Test.YtpgogpohkldhaaaEvV
import Derived.KernelRfl
set_option linter.unusedVariables false
set_option linter.unusedSimpArgs false
namespace Go.Ev

/-- a function, evaluated -/
def evF (P : Program) (g : FuncId) (args : List Dv) (H : List Ent) (hs : List Hint) (keep : List Nat) : Option (List Prop × Dv × List Ent) :=
  match P.funcs[g]? with
  | some fn => match fn.body with
    | some c => match ev P c (args ++ List.replicate (fn.ntmps - args.length) .junk) H hs with
      | some (C, .ret, ts', H1, hs') => match fin P fn ts' H1 H.length keep hs' with
        | some (C2, r, H') => some (C ++ C2, r, H')
        | none => none
      | some (C, .normal, ts', H1, hs') => match fin P fn ts' H1 H.length keep hs' with
        | some (C2, r, H') => some (C ++ C2, r, H')
        | none => none
      | _ => none
    | none => none
  | none => none

theorem con_of_ev {P : Program} {g : FuncId} {args : List Dv} {H H' : List Ent} {hs : List Hint} {keep : List Nat} {C : List Prop} {r : Dv} (h : evF P g args H hs keep = some (C, r, H')) (hc : AllP C) : Con P g args H r H' := by
  unfold evF at h
  split at h
  · rename_i fn hf
    split at h
    · rename_i c hb
      split at h
      · rename_i C1 ts' H1 hs' hev
        split at h
        · rename_i C2 r1 H2 hfin
          simp only [Option.some.injEq, Prod.mk.injEq] at h
          obtain ⟨rfl, rfl, rfl⟩ := h
          obtain ⟨c1, c2⟩ := allP_append.1 hc
          exact con_of_runs hf hb (ev_sound c _ _ _ _ _ _ _ _ hev c1) (.inl rfl) hfin c2
        · cases h
      · rename_i C1 ts' H1 hs' hev
        split at h
        · rename_i C2 r1 H2 hfin
          simp only [Option.some.injEq, Prod.mk.injEq] at h
          obtain ⟨rfl, rfl, rfl⟩ := h
          obtain ⟨c1, c2⟩ := allP_append.1 hc
          exact con_of_runs hf hb (ev_sound c _ _ _ _ _ _ _ _ hev c1) (.inr rfl) hfin c2
        · cases h
      · cases h
    · cases h
  · cases h

theorem runs_of_ev {P : Program} {c : Code} {ts ts' : List Dv} {H H' : List Ent} {ex : Ex} {hs hs' : List Hint} {C : List Prop} (h : ev P c ts H hs = some (C, ex, ts', H', hs')) (hc : AllP C) : Runs P c ts H ex ts' H' :=
  ev_sound c _ _ _ _ _ _ _ _ h hc

/-! ### Loops, named by their place in a function -/
def loopsOf : Code → List Code
  | .seq a b => loopsOf a ++ loopsOf b
  | .cond _ a b => loopsOf a ++ loopsOf b
  | .block _ a => loopsOf a
  | .scope a => loopsOf a
  | .loop a => .loop a :: loopsOf a
  | _ => []
def loopAt (P : Program) (g i : Nat) : Code :=
  match P.funcs[g]? with
  | some fn => match fn.body with
    | some c => (loopsOf c).getD i .skip
    | none => .skip
  | none => .skip
def bodyOf : Code → Code
  | .loop a => a
  | c => c
def bodyAt (P : Program) (g i : Nat) : Code := bodyOf (loopAt P g i)

theorem runs_loopAt {P : Program} {g i : Nat} {ts ts' : List Dv} {H H' : List Ent} {ex : Ex} (e : loopAt P g i = .loop (bodyAt P g i)) (h : LRuns P (bodyAt P g i) ts H ex ts' H') : Runs P (loopAt P g i) ts H ex ts' H' := by
  rw [e]
  exact runs_loop h

/-- a loop that is gone through n times, and left then -/
theorem lruns_count {P : Program} {body : Code} {S : Nat → List Dv} {HH : Nat → List Ent} {ts' : List Dv} {H' : List Ent} {ex : Ex} (n : Nat) (mask : List Nat)
    (step : ∀ k, k < n → ∃ ts1, Runs P body (S k) (HH k) .normal ts1 (HH (k + 1)) ∧ junkAll ts1 mask = S (k + 1)) (hne : ex ≠ .normal) (stop : Runs P body (S n) (HH n) ex ts' H') :
    ∀ m k, k + m = n → LRuns P body (S k) (HH k) ex ts' H'
  | 0, k, h => by
    have : k = n := by omega
    subst this
    exact loop_stop hne stop
  | m + 1, k, h => by
    obtain ⟨ts1, h1, h2⟩ := step k (by omega)
    have := lruns_count n mask step hne stop m (k + 1) (by omega)
    rw [← h2] at this
    exact loop_step mask h1 this

/-- bytes, a sum, as plain data -/
def u8 (b : UInt8) : Pl := .int .u8 (b.toNat : Int)
def bytesP (nn : Bool) (l : List UInt8) : Pl := .sl nn 1 (l.map u8)
end Go.Ev
