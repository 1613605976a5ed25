/-
  What expressions mean, as a list; of the first of them.
-/
import Derived.Test.YticodddigaiipaaSatL14
set_option linter.unusedVariables false
set_option linter.unusedSimpArgs false
namespace Go.Proofs.Yticodddigaiipaa
open Go.RowKit

def semT (L : List Ex) (v : Val) (k : Nat) : List Bool := (List.range k).map fun i : Nat => sem L (i : Int) v
theorem semT_len (L : List Ex) (v : Val) (k : Nat) : (semT L v k).length = k := by simp [semT]
theorem semT_succ (L : List Ex) (v : Val) (k : Nat) : semT L v (k + 1) = semT L v k ++ [sem L (k : Int) v] := by simp [semT, List.range_succ]
theorem at_semT {L : List Ex} {v : Val} {k : Nat} {j : Int} (h0 : 0 ≤ j) (h1 : j < k) : at_ (semT L v k) false j = sem L j v := by
  have : j.toNat < k := by omega
  simp [at_, semT, this]; congr 1; omega
theorem at_take {α : Type} {L : List α} {d : α} {m : Nat} {j : Int} (h0 : 0 ≤ j) (h1 : j < m) : at_ (L.take m) d j = at_ L d j := by
  simp only [at_]; rw [List.getElem?_take_of_lt (by omega)]
theorem right_take {L : List Ex} (h : RightL L) (m : Nat) : RightL (L.take m) := fun i h0 h1 => by
  rw [List.length_take] at h1
  rw [at_take h0 (by omega)]; exact h i h0 (by omega)
theorem sem_take {L : List Ex} (h : RightL L) {m : Nat} (hm : m ≤ L.length) : ∀ (n : Nat) (j : Int) (v : Val), j.toNat ≤ n → 0 ≤ j → j < m → sem (L.take m) j v = sem L j v := by
  have hl : (L.take m).length = m := by rw [List.length_take]; omega
  intro n
  induction n with
  | zero =>
    intro j v hn h0 h1
    rw [sem_step h h0 (by omega), sem_step (right_take h m) h0 (by omega), at_take h0 h1]
    refine semF_congr (fun h3 => ?_) v
    have := ((h j h0 (by omega)).abc h3).1; omega
  | succ n ih =>
    intro j v hn h0 h1
    rw [sem_step h h0 (by omega), sem_step (right_take h m) h0 (by omega), at_take h0 h1]
    refine semF_congr (fun h3 => ?_) v
    obtain ⟨ha, hb, hc⟩ := (h j h0 (by omega)).abc h3
    exact ⟨fun u => ih _ u (by omega) ha.1 (by omega), fun u => ih _ u (by omega) hb.1 (by omega), fun u => ih _ u (by omega) hc.1 (by omega)⟩
/-- a header's bits tell all -/
theorem sem_mk {L : List Ex} (h : RightL L) {j : Int} (h0 : 0 ≤ j) (h1 : j < L.length) (v : Val) : sem L j (hB (hmk v)) = sem L j v :=
  sem_dep h j.toNat j (Nat.le_refl _) h0 h1 _ _ fun i hi => by have := vars_mem hi; exact hB_mk v this.1 this.2.1
end Go.Proofs.Yticodddigaiipaa
