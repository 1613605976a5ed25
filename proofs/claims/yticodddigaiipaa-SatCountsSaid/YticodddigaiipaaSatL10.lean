/-
  Whole numbers in two words; a header's bits, held and read.
-/
import Derived.Test.YticodddigaiipaaSatS6
import Derived.Test.YticodddigaiipaaSatL6
set_option linter.unusedVariables false
set_option linter.unusedSimpArgs false
namespace Go.Proofs.Yticodddigaiipaa
open Go.RowKit

theorem hiW_rng (n : Nat) : 0 ≤ hiW n ∧ hiW n ≤ 18446744073709551615 := by unfold hiW; omega
theorem loW_rng (n : Nat) : 0 ≤ loW n ∧ loW n ≤ 18446744073709551615 := by unfold loW; omega
theorem wadd_eq {m n : Nat} (h : m + n < 340282366920938463463374607431768211456) : wadd (hiW m) (loW m) (hiW n) (loW n) = (hiW (m + n), loW (m + n)) := by
  unfold wadd hiW loW
  ext
  · simp only []; omega
  · simp only []; omega
theorem u64_wrap (n : Int) : IntKind.u64.wrap n = n % 18446744073709551616 := by simp [IntKind.wrap, IntKind.signed, IntKind.bits]
theorem radd_eq {m n : Nat} (h : m + n < 340282366920938463463374607431768211456) : radd (hiW m) (loW m) (hiW n) (loW n) = (hiW (m + n), loW (m + n)) := by
  unfold radd
  simp only [u64_wrap]
  unfold hiW loW
  split
  · ext <;> simp only [] <;> omega
  · ext <;> simp only [] <;> omega
theorem wzero_eq {n : Nat} (h : n < 340282366920938463463374607431768211456) : wzero (hiW n) (loW n) = decide (n = 0) := by
  unfold wzero
  rw [Bool.eq_iff_iff]
  simp only [Bool.and_true, Bool.and_eq_true, beq_iff_eq, decide_eq_true_eq]
  unfold hiW loW; omega
theorem or_add {a b k : Nat} (hb : b < 2 ^ k) : (a * 2 ^ k) ||| b = a * 2 ^ k + b := by
  rw [Nat.mul_comm]; exact (Nat.two_pow_add_eq_or_of_lt hb a).symm
theorem toNat_ofInt64 {n : Nat} (h : n < 18446744073709551616) : (BitVec.ofInt 64 (n : Int)).toNat = n := by
  rw [BitVec.toNat_ofInt, Int.emod_eq_of_lt (by omega) (by omega)]; rfl
theorem or_64 {a b : Nat} (ha : a < 18446744073709551616) (hb : b < 18446744073709551616) : ibits .or .u64 (a : Int) (b : Int) = ((a ||| b : Nat) : Int) := by
  have hl : a ||| b < 18446744073709551616 := Nat.or_lt_two_pow (n := 64) ha hb
  show IntKind.u64.wrap ((BitVec.ofInt 64 (a : Int) ||| BitVec.ofInt 64 (b : Int)).toNat) = _
  rw [BitVec.toNat_or, toNat_ofInt64 ha, toNat_ofInt64 hb, u64_wrap]; omega
theorem wup_eq {m : Nat} {n : Int} (h0 : 0 ≤ n) (h1 : n < 128) (h : m * 2 ^ n.toNat < 340282366920938463463374607431768211456) : wup (hiW m) (loW m) n = (hiW (m * 2 ^ n.toNat), loW (m * 2 ^ n.toNat)) := by
  obtain ⟨k, rfl⟩ := Int.eq_ofNat_of_zero_le h0
  simp only [Int.toNat_natCast] at h ⊢
  have hpk : 0 < 2 ^ k := Nat.pow_pos (by omega)
  have hm : m < 340282366920938463463374607431768211456 := Nat.lt_of_le_of_lt (Nat.le_mul_of_pos_right m hpk) h
  unfold wup
  rw [if_neg (by simp; omega)]
  split
  · rename_i h64
    have hk : 64 ≤ k := by omega
    obtain ⟨j, rfl⟩ : ∃ j, k = 64 + j := ⟨k - 64, by omega⟩
    rw [Nat.pow_add] at h ⊢
    have e1 : ((64 + j : Nat) : Int) - 64 = (j : Int) := by omega
    have hm64 : m < 18446744073709551616 := by
      have : 0 < 2 ^ j := Nat.pow_pos (by omega)
      have h2 : m * 2 ^ 64 ≤ m * (2 ^ 64 * 2 ^ j) := Nat.mul_le_mul_left _ (Nat.le_mul_of_pos_right _ this)
      omega
    rw [e1, Int.toNat_natCast, show min j IntKind.u64.bits = j from Nat.min_eq_left (by simp [IntKind.bits]; omega)]
    have e2 : loW m = (m : Int) := by unfold loW; omega
    have e3 : m * (2 ^ 64 * 2 ^ j) = (m * 2 ^ j) * 18446744073709551616 := by rw [Nat.mul_comm (2 ^ 64), ← Nat.mul_assoc]
    rw [e2, u64_wrap, e3]
    rw [e3] at h
    have e4 : (m : Int) * 2 ^ j = ((m * 2 ^ j : Nat) : Int) := by simp
    rw [e4]
    generalize m * 2 ^ j = q at h ⊢
    unfold hiW loW
    ext <;> simp only [] <;> omega
  · split
    · rename_i h64 hz
      have : k = 0 := by omega
      subst this; simp
    · rename_i h64 hz
      have hk : k < 64 := by omega
      have hk0 : 0 < k := by omega
      rw [Int.toNat_natCast, show min k IntKind.u64.bits = k from Nat.min_eq_left (by simp [IntKind.bits]; omega), show min (64 - (k : Int)).toNat IntKind.u64.bits = 64 - k by rw [show (64 - (k : Int)).toNat = 64 - k by omega]; exact Nat.min_eq_left (by simp [IntKind.bits])]
      have hp64 : 2 ^ k * 2 ^ (64 - k) = 18446744073709551616 := by rw [← Nat.pow_add, show k + (64 - k) = 64 by omega]
      -- the two words
      obtain ⟨H, L, hH, hL, hHL⟩ : ∃ H L : Nat, hiW m = (H : Int) ∧ loW m = (L : Int) ∧ (m = H * 18446744073709551616 + L ∧ L < 18446744073709551616 ∧ H < 18446744073709551616) :=
        ⟨m / 18446744073709551616, m % 18446744073709551616, by unfold hiW; omega, rfl, by omega, by omega, by omega⟩
      obtain ⟨hm2, hL2, hH2⟩ := hHL
      rw [hH, hL]
      have hdiv : L / 2 ^ (64 - k) < 2 ^ k := by
        rw [Nat.div_lt_iff_lt_mul (Nat.pow_pos (by omega)), hp64]; exact hL2
      have hHk : H * 2 ^ k < 18446744073709551616 := by
        rw [hm2, Nat.add_mul] at h
        have : H * 18446744073709551616 * 2 ^ k = H * 2 ^ k * 18446744073709551616 := by rw [Nat.mul_assoc, Nat.mul_comm 18446744073709551616, ← Nat.mul_assoc]
        rw [this] at h; omega
      have e1 : IntKind.u64.wrap ((H : Int) * 2 ^ k) = ((H * 2 ^ k : Nat) : Int) := by
        rw [u64_wrap, show (H : Int) * 2 ^ k = ((H * 2 ^ k : Nat) : Int) by simp]; omega
      have e2 : (L : Int).fdiv (2 ^ (64 - k)) = ((L / 2 ^ (64 - k) : Nat) : Int) := by
        rw [Int.fdiv_eq_ediv_of_nonneg _ (Int.le_of_lt (Int.pow_pos (by omega)))]; simp
      have hsum : H * 2 ^ k + L / 2 ^ (64 - k) < 18446744073709551616 := by
        rw [← or_add hdiv]
        exact Nat.or_lt_two_pow (n := 64) hHk (Nat.lt_of_lt_of_le hdiv (Nat.pow_le_pow_right (by omega) (by omega)))
      rw [e1, e2, or_64 hHk (Nat.lt_of_lt_of_le hdiv (Nat.le_trans (Nat.pow_le_pow_right (by omega) (show k ≤ 64 by omega)) (by simp))), or_add hdiv]
      have e3 : m * 2 ^ k = (H * 2 ^ k + L / 2 ^ (64 - k)) * 18446744073709551616 + (L % 2 ^ (64 - k)) * 2 ^ k := by
        have hLd : L = L / 2 ^ (64 - k) * 2 ^ (64 - k) + L % 2 ^ (64 - k) := by rw [Nat.mul_comm]; exact (Nat.div_add_mod L _).symm
        have h1 : H * 18446744073709551616 * 2 ^ k = H * 2 ^ k * 18446744073709551616 := by rw [Nat.mul_assoc, Nat.mul_comm 18446744073709551616, ← Nat.mul_assoc]
        have h2 : L * 2 ^ k = L / 2 ^ (64 - k) * 18446744073709551616 + L % 2 ^ (64 - k) * 2 ^ k := by
          conv => lhs; rw [hLd]
          rw [Nat.add_mul, Nat.mul_assoc, Nat.mul_comm (2 ^ (64 - k)) (2 ^ k), hp64]
        rw [hm2, Nat.add_mul, h1, h2, Nat.add_mul]; omega
      have hlow : (L % 2 ^ (64 - k)) * 2 ^ k < 18446744073709551616 := by
        have := Nat.mod_lt L (show 0 < 2 ^ (64 - k) from Nat.pow_pos (by omega))
        calc (L % 2 ^ (64 - k)) * 2 ^ k < 2 ^ (64 - k) * 2 ^ k := Nat.mul_lt_mul_of_pos_right this hpk
          _ = 18446744073709551616 := by rw [Nat.mul_comm]; exact hp64
      have e4 : IntKind.u64.wrap ((L : Int) * 2 ^ k) = (((L % 2 ^ (64 - k)) * 2 ^ k : Nat) : Int) := by
        rw [u64_wrap, show (L : Int) * 2 ^ k = ((L * 2 ^ k : Nat) : Int) by simp]
        have h2 : L * 2 ^ k = L / 2 ^ (64 - k) * 18446744073709551616 + L % 2 ^ (64 - k) * 2 ^ k := by
          have hLd : L = L / 2 ^ (64 - k) * 2 ^ (64 - k) + L % 2 ^ (64 - k) := by rw [Nat.mul_comm]; exact (Nat.div_add_mod L _).symm
          conv => lhs; rw [hLd]
          rw [Nat.add_mul, Nat.mul_assoc, Nat.mul_comm (2 ^ (64 - k)) (2 ^ k), hp64]
        rw [h2]; omega
      rw [e4, e3]
      unfold hiW loW
      ext <;> simp only [] <;> omega
end Go.Proofs.Yticodddigaiipaa
