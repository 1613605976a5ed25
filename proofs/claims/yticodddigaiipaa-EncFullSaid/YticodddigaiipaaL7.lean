/-
  Masks, prefixes, and the filter's law: the set's word on a header's bits is the document's match.
-/
import Derived.Test.YticodddigaiipaaE1
import Derived.Test.YticodddigaiipaaL6
set_option linter.unusedVariables false
set_option linter.unusedSimpArgs false
namespace Go.Proofs.Yticodddigaiipaa
open Go.RowKit

theorem pow_le32 {k : Nat} (h : k ≤ 32) : (2 : Nat) ^ k ≤ 4294967296 := Nat.pow_le_pow_right (n := 2) (by omega) h
theorem toNat_ofInt32 {n : Nat} (h : n < 4294967296) : (BitVec.ofInt 32 (n : Int)).toNat = n := by
  rw [BitVec.toNat_ofInt, Int.emod_eq_of_lt (by omega) (by omega)]; rfl
theorem wrap32 {n : Nat} (h : n < 4294967296) : IntKind.u32.wrap (n : Int) = n := wrap_u32 ⟨by omega, by omega⟩
/-- the mask of the first 32 - k bits -/
def msk (k : Nat) : Nat := 4294967296 - 2 ^ k
theorem mask_eq {n : Int} (h0 : 0 ≤ n) (h1 : n ≤ 32) : mask n = (msk (32 - n).toNat : Nat) := by
  have hk := pow_le32 (k := (32 - n).toNat) (by omega)
  have hp : 0 < 2 ^ (32 - n).toNat := Nat.pow_pos (by omega)
  unfold mask msk
  split
  · have : n = 0 := by omega
    subst this; rfl
  · have hs : (2 : Nat) ^ (32 - n).toNat < 4294967296 := by
      have := Nat.pow_lt_pow_right (a := 2) (by omega) (show (32 - n).toNat < 32 by omega)
      simpa using this
    rw [if_neg (by omega), show min (32 - n).toNat IntKind.u32.bits = (32 - n).toNat from Nat.min_eq_left (by simp [IntKind.bits]; omega)]
    simp only [IntKind.wrap, IntKind.signed, IntKind.bits, Bool.false_and]
    generalize (32 - n).toNat = k at *
    have e : (4294967295 : Int) * 2 ^ k % 2 ^ 32 = ((4294967296 - 2 ^ k : Nat) : Int) := by
      have e1 : (4294967295 : Int) * 2 ^ k = ((4294967296 - 2 ^ k : Nat) : Int) + (2 ^ k - 1) * 4294967296 := by
        rw [Int.ofNat_sub (by omega)]; simp; omega
      rw [e1, show ((2 : Int) ^ 32) = 4294967296 from rfl, Int.add_mul_emod_self_right, Int.emod_eq_of_lt (by omega) (by omega)]
    rw [e]; simp
theorem msk_lt {k : Nat} : msk k < 4294967296 := by have : 0 < 2 ^ k := Nat.pow_pos (by omega); unfold msk; omega
theorem not_msk {k : Nat} (h : k ≤ 32) : (~~~ BitVec.ofInt 32 (msk k : Nat)).toNat = 2 ^ k - 1 := by
  have := pow_le32 h
  have hp : 0 < 2 ^ k := Nat.pow_pos (by omega)
  rw [BitVec.toNat_not, toNat_ofInt32 msk_lt]
  unfold msk; omega
theorem andNot_msk {a k : Nat} (ha : a < 4294967296) (h : k ≤ 32) : ibits .andNot .u32 (a : Int) (msk k : Nat) = ((a % 2 ^ k : Nat) : Int) := by
  have hl : a % 2 ^ k < 4294967296 := Nat.lt_of_le_of_lt (Nat.mod_le _ _) ha
  show IntKind.u32.wrap ((BitVec.ofInt 32 (a : Int) &&& ~~~ BitVec.ofInt 32 (msk k : Nat)).toNat) = _
  rw [BitVec.toNat_and, not_msk h, toNat_ofInt32 ha, Nat.and_two_pow_sub_one_eq_mod, wrap32 hl]
theorem and_msk_nat {a k : Nat} (ha : a < 4294967296) (h : k ≤ 32) : a &&& msk k = a / 2 ^ k * 2 ^ k := by
  have hle := pow_le32 h
  have e : msk k = (2 ^ (32 - k) - 1) * 2 ^ k := by
    unfold msk
    rw [Nat.sub_mul, ← Nat.pow_add, show 32 - k + k = 32 by omega]; omega
  apply Nat.eq_of_testBit_eq
  intro i
  rw [e, Nat.testBit_and, Nat.testBit_mul_two_pow, Nat.testBit_mul_two_pow, Nat.testBit_two_pow_sub_one, Nat.testBit_div_two_pow]
  by_cases hi : k ≤ i
  · rw [show i - k + k = i by omega]
    by_cases h32 : i < 32
    · have : i - k < 32 - k := by omega
      simp [hi, this]
    · have : a.testBit i = false := Nat.testBit_lt_two_pow (Nat.lt_of_lt_of_le ha (by
        have := Nat.pow_le_pow_right (n := 2) (by omega) (show 32 ≤ i by omega)
        simpa using this))
      simp [this]
  · simp [hi]
theorem and_msk {a k : Nat} (ha : a < 4294967296) (h : k ≤ 32) : ibits .and .u32 (a : Int) (msk k : Nat) = ((a / 2 ^ k * 2 ^ k : Nat) : Int) := by
  have hl : a / 2 ^ k * 2 ^ k < 4294967296 := Nat.lt_of_le_of_lt (Nat.div_mul_le_self _ _) ha
  show IntKind.u32.wrap ((BitVec.ofInt 32 (a : Int) &&& BitVec.ofInt 32 (msk k : Nat)).toNat) = _
  rw [BitVec.toNat_and, toNat_ofInt32 ha, toNat_ofInt32 msk_lt, and_msk_nat ha h, wrap32 hl]
theorem xor_32 {a b : Nat} (ha : a < 4294967296) (hb : b < 4294967296) : ibits .xor .u32 (a : Int) (b : Int) = ((a ^^^ b : Nat) : Int) := by
  have hl : a ^^^ b < 4294967296 := Nat.xor_lt_two_pow (n := 32) ha hb
  show IntKind.u32.wrap ((BitVec.ofInt 32 (a : Int) ^^^ BitVec.ofInt 32 (b : Int)).toNat) = _
  rw [BitVec.toNat_xor, toNat_ofInt32 ha, toNat_ofInt32 hb, wrap32 hl]
theorem xor_zero {a b : Nat} (h : a ^^^ b = 0) : a = b := by
  apply Nat.eq_of_testBit_eq; intro i
  have := congrArg (Nat.testBit · i) h
  simpa [Nat.testBit_xor] using this
theorem xor_div {a b k : Nat} : (a ^^^ b) / 2 ^ k * 2 ^ k = 0 ↔ a / 2 ^ k = b / 2 ^ k := by
  have hp : 0 < 2 ^ k := Nat.pow_pos (by omega)
  have e : (a ^^^ b) / 2 ^ k = a / 2 ^ k ^^^ b / 2 ^ k := by
    apply Nat.eq_of_testBit_eq; intro i; simp [Nat.testBit_div_two_pow, Nat.testBit_xor]
  rw [e, Nat.mul_eq_zero]
  constructor
  · rintro (h | h)
    · exact xor_zero h
    · omega
  · intro h; rw [h]; simp

theorem right_iff {a b : Int} (h0 : 0 ≤ a) (h1 : a ≤ 4294967295) : right a b = rright a b := by
  unfold right rright
  by_cases hb : 0 ≤ b ∧ b ≤ 32
  · obtain ⟨x, rfl⟩ := Int.eq_ofNat_of_zero_le h0
    rw [mask_eq hb.1 hb.2, andNot_msk (by omega) (by omega)]
    have e : ((x : Int) % 2 ^ (32 - b).toNat) = ((x % 2 ^ (32 - b).toNat : Nat) : Int) := by simp
    rw [e]
  · have : (decide (0 ≤ b) && decide (b ≤ 32)) = false := by
      rw [Bool.and_eq_false_iff, decide_eq_false_iff_not, decide_eq_false_iff_not]; omega
    rw [this]; rfl
theorem has_iff {a b x : Int} (h0 : 0 ≤ a) (h1 : a ≤ 4294967295) (x0 : 0 ≤ x) (x1 : x ≤ 4294967295) (hb : 0 ≤ b ∧ b ≤ 32) : has a b x = rhas a b x := by
  unfold has rhas
  obtain ⟨m, rfl⟩ := Int.eq_ofNat_of_zero_le h0
  obtain ⟨n, rfl⟩ := Int.eq_ofNat_of_zero_le x0
  have hl : n ^^^ m < 4294967296 := Nat.xor_lt_two_pow (n := 32) (show n < 2 ^ 32 by simp; omega) (show m < 2 ^ 32 by simp; omega)
  rw [mask_eq hb.1 hb.2, xor_32 (by omega) (by omega), and_msk hl (by omega)]
  rw [Bool.eq_iff_iff, decide_eq_true_eq, decide_eq_true_eq]
  have e1 : (n : Int) / 2 ^ (32 - b).toNat = ((n / 2 ^ (32 - b).toNat : Nat) : Int) := by simp
  have e2 : (m : Int) / 2 ^ (32 - b).toNat = ((m / 2 ^ (32 - b).toNat : Nat) : Int) := by simp
  rw [e1, e2]
  have := xor_div (a := n) (b := m) (k := (32 - b).toNat)
  constructor
  · intro h; rw [this.1 (by exact_mod_cast h)]
  · intro h; rw [this.2 (by exact_mod_cast h)]; rfl

/-! ### The filter -/
section
variable {fda fdb fsa fsb fp fsl fsh fdl fdh : Int}
theorem check_iff (h1 : 0 ≤ fda ∧ fda ≤ 4294967295) (h2 : 0 ≤ fsa ∧ fsa ≤ 4294967295) : fcheck fda fdb fsa fsb fp fsl fsh fdl fdh = rcheck fda fdb fsa fsb fp fsl fsh fdl fdh := by
  unfold fcheck rcheck; rw [right_iff h1.1 h1.2, right_iff h2.1 h2.2]
theorem rright_of {a b : Int} (h : rright a b = true) : 0 ≤ b ∧ b ≤ 32 := by
  unfold rright at h
  simp only [Bool.and_eq_true, decide_eq_true_eq] at h
  exact ⟨h.1.1, h.1.2⟩
theorem filt_match {hd hs hp hsp hdp : Int} (h1 : 0 ≤ fda ∧ fda ≤ 4294967295) (h2 : 0 ≤ fsa ∧ fsa ≤ 4294967295) (hc : rcheck fda fdb fsa fsb fp fsl fsh fdl fdh = 0) (hr : 0 ≤ fsl ∧ fsh ≤ 65535 ∧ 0 ≤ fdl ∧ fdh ≤ 65535) (H : HdrOk hd hs hp hsp hdp) :
    filtD fda fdb fsa fsb fp fsl fsh fdl fdh (fun i => hbit hd hs hp hsp hdp i) = rmatch fda fdb fsa fsb fp fsl fsh fdl fdh hd hs hp hsp hdp := by
  rw [← check_iff h1 h2] at hc
  obtain ⟨c1, c2, c3, c4, c5, c6⟩ := check_of hc
  have b1 := right_of c1
  have b2 := right_of c2
  have m1 : fdb.toNat ≤ 32 := by omega
  have m2 : fsb.toNat ≤ 32 := by omega
  unfold filtD
  have l1 := lits_num (q := 0) (s := fda) (W := 32) (n := fdb.toNat) h1.1 (by omega) (by omega) m1 (fun i => hbit hd hs hp hsp hdp i)
  have l2 := lits_num (q := 32) (s := fsa) (W := 32) (n := fsb.toNat) h2.1 (by omega) (by omega) m2 (fun i => hbit hd hs hp hsp hdp i)
  have l3 : fp ≠ -1 → cubeD (litL 64 fp 8 8) (fun i => hbit hd hs hp hsp hdp i) = decide (hp = fp) := fun hn => by
    have := lits_num (q := 64) (s := fp) (W := 8) (n := 8) (by omega) (by omega) (by omega) (by omega) (fun i => hbit hd hs hp hsp hdp i)
    rw [hbit_p H (by omega)] at this
    simpa using this
  rw [show ((32 : Nat) : Int) = 32 from rfl] at l1 l2
  rw [l1, l2, hbit_d H m1, hbit_s H m2, hbit_sp H (by omega), hbit_dp H (by omega)]
  simp only [Nat.sub_self, Int.pow_zero, Int.ediv_one]
  unfold rmatch rhas
  rw [show 32 - fdb.toNat = (32 - fdb).toNat by omega, show 32 - fsb.toNat = (32 - fsb).toNat by omega]
  by_cases hp1 : fp = -1
  · subst hp1
    rw [Bool.eq_iff_iff]
    simp
    omega
  · rw [if_neg hp1, l3 hp1, Bool.eq_iff_iff]
    simp [hp1]
    omega
end
end Go.Proofs.Yticodddigaiipaa
