/-
  A range of ports as blocks. No program in sight.
-/
import Derived.Test.YticodddigaiipaaL2
import Derived.Test.YticodddigaiipaaK13
set_option linter.unusedVariables false
set_option linter.unusedSimpArgs false
set_option linter.unusedSectionVars false
namespace Go.Proofs.Yticodddigaiipaa

/-- the first n bits of 16 are alike -/
def topEq (s p n : Int) : Bool := decide (s / 2 ^ (16 - n).toNat = p / 2 ^ (16 - n).toNat)
structure Blks (L : List I2) (lo hi : Int) : Prop where
  ok : ∀ x ∈ L, 0 ≤ x.1 ∧ x.1 ≤ 65535 ∧ 0 ≤ x.2 ∧ x.2 ≤ 16
  all : ∀ p, (L.any fun x => topEq x.1 p x.2) = decide (lo ≤ p ∧ p < hi)
theorem blks_nil (lo : Int) : Blks [] lo lo := ⟨by simp, fun p => by simp⟩
theorem blks_push {L : List I2} {lo cur z : Int} {k : Nat} (h : Blks L lo cur) (hl : lo ≤ cur) (h0 : 0 ≤ cur) (hc : cur ≤ 65535) (hk : k ≤ 16) (hz : z = 2 ^ k) (hm : cur % z = 0) : Blks (L ++ [(cur, 16 - (k : Int))]) lo (cur + z) := by
  have hz1 : 0 < z := by rw [hz]; exact Int.pow_pos (by omega)
  refine ⟨fun x hx => ?_, fun p => ?_⟩
  · rcases List.mem_append.1 hx with hx | hx
    · exact h.ok x hx
    · simp at hx; subst hx; exact ⟨h0, hc, by simp only []; omega, by simp only []; omega⟩
  · rw [List.any_append, h.all p]
    simp only [List.any_cons, List.any_nil, Bool.or_false, topEq]
    have e : (16 - (16 - (k : Int))).toNat = k := by omega
    rw [e, ← hz, Bool.eq_iff_iff]
    simp only [Bool.or_eq_true, decide_eq_true_eq]
    have hq : cur / z = p / z ↔ cur ≤ p ∧ p < cur + z := by
      have h1 := Int.mul_ediv_add_emod cur z |>.symm
      have h2 := Int.mul_ediv_add_emod p z |>.symm
      have h3 := Int.emod_nonneg p (Int.ne_of_gt hz1)
      have h4 := Int.emod_lt_of_pos p hz1
      constructor
      · intro e; rw [e, hm] at h1; omega
      · rintro ⟨a, b⟩
        generalize cur / z = u at *
        generalize p / z = t at *
        rw [hm] at h1
        have hlt : z * t < z * (u + 1) := by rw [Int.mul_add]; omega
        have hgt : z * u < z * (t + 1) := by rw [Int.mul_add]; omega
        have a1 := Int.lt_of_mul_lt_mul_left hlt (Int.le_of_lt hz1)
        have a2 := Int.lt_of_mul_lt_mul_left hgt (Int.le_of_lt hz1)
        omega
    rw [hq]; omega
theorem pow_half {y : Int} {m : Nat} (h : y = 2 ^ m) (h1 : 1 < y) : ∃ m', m = m' + 1 ∧ y / 2 = 2 ^ m' := by
  cases m with
  | zero => simp at h; omega
  | succ m => refine ⟨m, rfl, ?_⟩; rw [h, Int.pow_succ]; omega
theorem pow_le16 {z : Int} {k : Nat} (h : z = 2 ^ k) (hz : z ≤ 65536) : k ≤ 16 := by
  by_cases hk : k ≤ 16
  · exact hk
  · exfalso
    have : (2 : Int) ^ 17 ≤ 2 ^ k := by
      obtain ⟨j, rfl⟩ : ∃ j, k = 17 + j := ⟨k - 17, by omega⟩
      rw [Int.pow_add]
      have : (0 : Int) < 2 ^ j := Int.pow_pos (by omega)
      omega
    omega
end Go.Proofs.Yticodddigaiipaa
