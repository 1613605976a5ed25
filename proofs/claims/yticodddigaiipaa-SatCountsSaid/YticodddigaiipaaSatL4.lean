/-
  Numbers out of bits: what a row of literals says of a number. No program in sight.
-/
import Derived.Test.YticodddigaiipaaSatL2
import Derived.Test.YticodddigaiipaaSatK13
set_option linter.unusedVariables false
set_option linter.unusedSimpArgs false
namespace Go.Proofs.Yticodddigaiipaa

/-- the first k bits from q on, as a number -/
def numB (q : Int) (v : Int → Bool) : Nat → Int
  | 0 => 0
  | k + 1 => 2 * numB q v k + if v (q + (k : Int)) then 1 else 0
theorem numB_range (q : Int) (v : Int → Bool) : ∀ k, 0 ≤ numB q v k ∧ numB q v k < 2 ^ k
  | 0 => by simp [numB]
  | k + 1 => by
    have := numB_range q v k
    rw [numB, Int.pow_succ]
    split <;> omega
/-- bit i of a number of W bits -/
def bitW (s : Int) (W i : Nat) : Bool := decide (s / 2 ^ (W - 1 - i) % 2 = 1)
theorem bit_step {s : Int} {W n : Nat} (h : n < W) : s / 2 ^ (W - (n + 1)) = 2 * (s / 2 ^ (W - n)) + if bitW s W n then 1 else 0 := by
  have e : W - n = (W - (n + 1)) + 1 := by omega
  have e2 : W - 1 - n = W - (n + 1) := by omega
  rw [e, Int.pow_succ, ← Int.ediv_ediv_of_nonneg (Int.le_of_lt (Int.pow_pos (by omega))), bitW, e2]
  generalize s / 2 ^ (W - (n + 1)) = t
  by_cases hb : t % 2 = 1 <;> simp [hb] <;> omega
theorem num_eq {q s : Int} {W : Nat} (h0 : 0 ≤ s) (h1 : s < 2 ^ W) (v : Int → Bool) : ∀ n, n ≤ W → ((∀ i, i < n → v (q + (i : Nat)) = bitW s W i) ↔ numB q v n = s / 2 ^ (W - n))
  | 0, _ => by
    simp only [numB, Nat.sub_zero, Nat.not_lt_zero, false_implies, implies_true, true_iff]
    exact (Int.ediv_eq_zero_of_lt h0 h1).symm
  | n + 1, hn => by
    have ih := num_eq (q := q) h0 h1 v n (by omega)
    rw [bit_step (by omega), numB]
    constructor
    · intro h
      rw [ih.1 fun i hi => h i (by omega), h n (by omega)]
    · intro h i hi
      have key : numB q v n = s / 2 ^ (W - n) ∧ v (q + (n : Int)) = bitW s W n := by
        cases hv : v (q + (n : Int)) <;> cases hb : bitW s W n <;> simp [hv, hb] at h ⊢ <;> omega
      by_cases hin : i < n
      · exact ih.2 key.1 i hin
      · obtain rfl : i = n := by omega
        exact key.2
end Go.Proofs.Yticodddigaiipaa
