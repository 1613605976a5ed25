/-
  Bits of machine numbers as quotients; sets of headers by their numbers. No program in sight.
-/
import Derived.Test.YticodddigaiipaaSatL4
set_option linter.unusedVariables false
set_option linter.unusedSimpArgs false
namespace Go.Proofs.Yticodddigaiipaa

theorem and_one_nat (x : Nat) : x &&& 1 = x % 2 := by simp [Nat.and_one_is_mod]
theorem ibits_and1 {k : IntKind} (hk : k.signed = false) {m : Int} (h0 : 0 ≤ m) (h1 : m < 2 ^ k.bits) : ibits .and k m 1 = m % 2 := by
  obtain ⟨x, rfl⟩ := Int.eq_ofNat_of_zero_le h0
  have hb : 1 ≤ k.bits := by cases k <;> simp [IntKind.bits]
  have h1' : x < 2 ^ k.bits := by exact_mod_cast h1
  have h2 : 1 < 2 ^ k.bits := Nat.one_lt_two_pow (by omega)
  simp only [ibits]
  have e1 : (BitVec.ofInt k.bits (x : Int)).toNat = x := by
    rw [BitVec.toNat_ofInt]
    rw [Int.emod_eq_of_lt h0 (by exact_mod_cast h1')]; rfl
  have e2 : (BitVec.ofInt k.bits (1 : Int)).toNat = 1 := by
    rw [BitVec.toNat_ofInt, Int.emod_eq_of_lt (by omega) (by exact_mod_cast h2)]; rfl
  rw [BitVec.toNat_and, e1, e2, and_one_nat]
  simp only [IntKind.wrap, hk, Bool.false_and]
  rw [Int.emod_eq_of_lt (by omega) (by have : x % 2 < 2 ^ k.bits := by omega
                                       exact_mod_cast this)]
  simp
end Go.Proofs.Yticodddigaiipaa
