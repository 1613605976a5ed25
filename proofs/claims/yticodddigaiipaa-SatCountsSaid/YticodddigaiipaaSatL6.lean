/-
  What literals and headers' bits say in numbers. (over T5: litL; T1: hbit)
-/
import Derived.Test.YticodddigaiipaaSatT5
import Derived.Test.YticodddigaiipaaSatL5
set_option linter.unusedVariables false
set_option linter.unusedSectionVars false
set_option linter.unusedSimpArgs false
namespace Go.Proofs.Yticodddigaiipaa

theorem bit_of {k : IntKind} (hk : k.signed = false) {x : Int} {W i : Nat} {e : Int} (h0 : 0 ≤ x) (h1 : x < 2 ^ k.bits) (he : e.toNat = W - 1 - i) (hW : W ≤ k.bits) : decide (ibits .and k (x.fdiv (2 ^ min e.toNat k.bits)) 1 = 1) = bitW x W i := by
  rw [he, Nat.min_eq_left (by omega), Int.fdiv_eq_ediv_of_nonneg _ (Int.le_of_lt (Int.pow_pos (by omega)))]
  have hp : (0 : Int) < 2 ^ (W - 1 - i) := Int.pow_pos (by omega)
  have g0 : 0 ≤ x / 2 ^ (W - 1 - i) := Int.ediv_nonneg h0 (Int.le_of_lt hp)
  have g1 : x / 2 ^ (W - 1 - i) < 2 ^ k.bits := Int.lt_of_le_of_lt (Int.ediv_le_self _ h0) h1
  rw [ibits_and1 hk g0 g1]; rfl
/-- a header's bits, as numbers -/
structure HdrOk (hd hs hp hsp hdp : Int) : Prop where
  d : 0 ≤ hd ∧ hd < 2 ^ 32
  s : 0 ≤ hs ∧ hs < 2 ^ 32
  p : 0 ≤ hp ∧ hp < 2 ^ 8
  sp : 0 ≤ hsp ∧ hsp < 2 ^ 16
  dp : 0 ≤ hdp ∧ hdp < 2 ^ 16
section
variable {hd hs hp hsp hdp : Int} (H : HdrOk hd hs hp hsp hdp)
include H
theorem hbit_d {n : Nat} (hn : n ≤ 32) : numB 0 (fun i => hbit hd hs hp hsp hdp i) n = hd / 2 ^ (32 - n) := by
  rw [← num_eq H.d.1 H.d.2 _ n hn]
  intro i hi
  simp only [hbit, Int.zero_add]
  rw [if_neg (by simp; omega), if_pos (by omega)]
  exact bit_of (k := .u32) rfl H.d.1 H.d.2 (by omega) (Nat.le_refl _)
theorem hbit_s {n : Nat} (hn : n ≤ 32) : numB 32 (fun i => hbit hd hs hp hsp hdp i) n = hs / 2 ^ (32 - n) := by
  rw [← num_eq H.s.1 H.s.2 _ n hn]
  intro i hi
  simp only [hbit]
  rw [if_neg (by simp; omega), if_neg (by omega), if_pos (by omega)]
  exact bit_of (k := .u32) rfl H.s.1 H.s.2 (by omega) (Nat.le_refl _)
theorem hbit_p {n : Nat} (hn : n ≤ 8) : numB 64 (fun i => hbit hd hs hp hsp hdp i) n = hp / 2 ^ (8 - n) := by
  rw [← num_eq H.p.1 H.p.2 _ n hn]
  intro i hi
  simp only [hbit]
  rw [if_neg (by simp; omega), if_neg (by omega), if_neg (by omega), if_pos (by omega)]
  exact bit_of (k := .u8) rfl H.p.1 H.p.2 (by omega) (Nat.le_refl _)
theorem hbit_sp {n : Nat} (hn : n ≤ 16) : numB 72 (fun i => hbit hd hs hp hsp hdp i) n = hsp / 2 ^ (16 - n) := by
  rw [← num_eq H.sp.1 H.sp.2 _ n hn]
  intro i hi
  simp only [hbit]
  rw [if_neg (by simp; omega), if_neg (by omega), if_neg (by omega), if_neg (by omega), if_pos (by omega)]
  exact bit_of (k := .u16) rfl H.sp.1 H.sp.2 (by omega) (Nat.le_refl _)
theorem hbit_dp {n : Nat} (hn : n ≤ 16) : numB 88 (fun i => hbit hd hs hp hsp hdp i) n = hdp / 2 ^ (16 - n) := by
  rw [← num_eq H.dp.1 H.dp.2 _ n hn]
  intro i hi
  simp only [hbit]
  rw [if_neg (by simp; omega), if_neg (by omega), if_neg (by omega), if_neg (by omega), if_neg (by omega)]
  exact bit_of (k := .u16) rfl H.dp.1 H.dp.2 (by omega) (Nat.le_refl _)
end
end Go.Proofs.Yticodddigaiipaa
