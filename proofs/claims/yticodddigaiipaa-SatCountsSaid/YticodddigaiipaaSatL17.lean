/-
  What SatCounts' law and its first check ask of sets.
-/
import Derived.Test.YticodddigaiipaaSatS12
import Derived.Test.YticodddigaiipaaSatL16
set_option linter.unusedVariables false
set_option linter.unusedSectionVars false
set_option linter.unusedSimpArgs false
namespace Go.Proofs.Yticodddigaiipaa
open Go.RowKit

theorem lvIn_new (V : List Int) : LvIn V [n0, n0] := fun x hx => by simp at hx
section
variable {L : List Ex} (h : RightL L) {i : Int} (h0 : 0 ≤ i) (h1 : i < L.length) {A : List N3} (hW : Wf A) {f : Int} (hf : Okn A f) (hd : ∀ v, den A v f = sem L i v)
include h h0 h1 hW hf hd
theorem law_count : countF A f = cntW L i (2 ^ (varsL L 104).length) * 2 ^ (104 - (varsL L 104).length) := by
  rw [countF, nodeV_1 hW hf]; exact (counts_eq h h0 h1 hW hf hd).1
theorem law_none (hz : f = 0) (w : Nat) : fstW L i w = none := by
  unfold fstW
  apply List.find?_eq_none.2
  intro q _
  rw [← hd, hz, den_zero]; simp
theorem law_least : leastV A f = lstW L i (2 ^ (varsL L 104).length) := by
  by_cases hz : f = 0
  · unfold leastV lstW; rw [if_pos hz, law_none h h0 h1 hW hf hd hz]
  · unfold leastV lstW wayW
    rw [if_neg hz, least_eq h h0 h1 hW hf hd]
    cases fstW L i (2 ^ (varsL L 104).length) <;> rfl
theorem law_some : decide (f ≠ 0) = (fstW L i (2 ^ (varsL L 104).length)).isSome := by
  by_cases hz : f = 0
  · rw [law_none h h0 h1 hW hf hd hz, decide_eq_false (by simpa using hz)]; rfl
  · have := LS_some hW 104 (Nat.le_refl _) f (fun _ => false) hf (by have := (lev_le hW hf).1; omega) hz
    rw [least_eq h h0 h1 hW hf hd, Option.isSome_map] at this
    rw [this, decide_eq_true hz]
end
theorem law_zero {A : List N3} (hW : Wf A) {f : Int} (hf : Okn A f) : wzero (hiW (countF A f)) (loW (countF A f)) = decide (f = 0) := by
  rw [wzero_eq (countF_lt hW hf).1]
  by_cases hz : f = 0
  · subst hz; simp [countF, cnt_zero]
  · have hp := cnt_pos hW f.toNat f (Nat.le_refl _) hf hz
    have : 0 < countF A f := Nat.mul_pos hp (Nat.pow_pos (by omega))
    rw [decide_eq_false hz, decide_eq_false (by omega)]
theorem var0 {A : List N3} (hW : Wf A) {r : Int} (hr : Okn A r) (hd : ∀ v, den A v r = v 0) : r ≠ 0 ∧ countF A r = 2 ^ 103 ∧ leastV A r = (2147483648, 0, 0, 0, 0) := by
  have e0 : (fun u => den A u r) = fun v : Val => v 0 := funext hd
  have hne : r ≠ 0 := fun e => by
    have := hd (fun _ => true)
    rw [e, den_zero] at this; cases this
  refine ⟨hne, ?_, ?_⟩
  · have e1 := Sc_den hW 104 (Nat.le_refl _) r (fun _ => false) hr (by have := (lev_le hW hr).1; omega)
    have e2 := Sc_ec (D := fun v : Val => v 0) 104 (Nat.le_refl _) [0] (fun _ => false) (by simp) (fun x hx => by simp at hx; omega) (fun u v huv => huv 0 (.inr (by simp)))
    rw [e0, e2.2] at e1
    rw [countF, nodeV_1 hW hr]
    rw [show (lev A r - (104 - ((104 : Nat) : Int))).toNat = (lev A r).toNat by omega] at e1
    rw [← e1]
    simp [Ec, upd_same]
  · unfold leastV
    rw [if_neg hne, e0, LS_le (D := fun v : Val => v 0) 104 (Nat.le_refl _) [0] (fun _ => false) (by simp) (fun x hx => by simp at hx; omega) (fun u v huv => huv 0 (.inr (by simp))) (fun _ _ _ _ => rfl)]
    simp only [LE_, upd_same]
    rfl
theorem hi103 : hiW (2 ^ 103) = 549755813888 ∧ loW (2 ^ 103) = 0 := by decide
theorem wpow103 : wpow 103 = (549755813888, 0) := by decide
end Go.Proofs.Yticodddigaiipaa
