/-
  A header out of its bits; a bit of it held.
-/
import Derived.Test.YticodddigaiipaaSatL10
set_option linter.unusedVariables false
set_option linter.unusedSimpArgs false
namespace Go.Proofs.Yticodddigaiipaa
open Go.RowKit

abbrev H5 := Int × Int × Int × Int × Int
/-- the header that has these bits -/
def hmk (v : Int → Bool) : H5 := (numB 0 v 32, numB 32 v 32, numB 64 v 8, numB 72 v 16, numB 88 v 16)
abbrev hB (x : H5) (i : Int) : Bool := hbit x.1 x.2.1 x.2.2.1 x.2.2.2.1 x.2.2.2.2 i
theorem hmk_ok (v : Int → Bool) : HdrOk (hmk v).1 (hmk v).2.1 (hmk v).2.2.1 (hmk v).2.2.2.1 (hmk v).2.2.2.2 := ⟨numB_range 0 v 32, numB_range 32 v 32, numB_range 64 v 8, numB_range 72 v 16, numB_range 88 v 16⟩
theorem numB_congr {q : Int} {v u : Int → Bool} : ∀ {k : Nat}, (∀ i : Nat, i < k → v (q + (i : Int)) = u (q + (i : Int))) → numB q v k = numB q u k
  | 0, _ => rfl
  | k + 1, h => by rw [numB, numB, numB_congr fun i hi => h i (by omega), h k (by omega)]
theorem hmk_congr {v u : Int → Bool} (h : ∀ i, 0 ≤ i → i < 104 → v i = u i) : hmk v = hmk u := by
  unfold hmk
  rw [numB_congr fun i hi => h _ (by omega) (by omega), numB_congr (q := 32) fun i hi => h _ (by omega) (by omega), numB_congr (q := 64) fun i hi => h _ (by omega) (by omega), numB_congr (q := 72) fun i hi => h _ (by omega) (by omega), numB_congr (q := 88) fun i hi => h _ (by omega) (by omega)]
theorem numB_bit {q : Int} {v : Int → Bool} {W i : Nat} (hi : i < W) : v (q + (i : Int)) = bitW (numB q v W) W i := by
  have h := (num_eq (q := q) (numB_range q v W).1 (numB_range q v W).2 v W (Nat.le_refl _)).2 (by simp)
  exact h i hi
theorem hB_mk (v : Int → Bool) {i : Int} (h0 : 0 ≤ i) (h1 : i < 104) : hB (hmk v) i = v i := by
  have H := hmk_ok v
  unfold hB hbit
  rw [if_neg (by simp; omega)]
  split
  · rename_i h
    have := numB_bit (q := 0) (v := v) (W := 32) (i := i.toNat) (by omega)
    rw [show (0 : Int) + (i.toNat : Int) = i by omega] at this
    rw [this]; exact bit_of (k := .u32) rfl H.d.1 H.d.2 (by omega) (Nat.le_refl _)
  · split
    · have := numB_bit (q := 32) (v := v) (W := 32) (i := (i - 32).toNat) (by omega)
      rw [show (32 : Int) + ((i - 32).toNat : Int) = i by omega] at this
      rw [this]; exact bit_of (k := .u32) rfl H.s.1 H.s.2 (by omega) (Nat.le_refl _)
    · split
      · have := numB_bit (q := 64) (v := v) (W := 8) (i := (i - 64).toNat) (by omega)
        rw [show (64 : Int) + ((i - 64).toNat : Int) = i by omega] at this
        rw [this]; exact bit_of (k := .u8) rfl H.p.1 H.p.2 (by omega) (Nat.le_refl _)
      · split
        · have := numB_bit (q := 72) (v := v) (W := 16) (i := (i - 72).toNat) (by omega)
          rw [show (72 : Int) + ((i - 72).toNat : Int) = i by omega] at this
          rw [this]; exact bit_of (k := .u16) rfl H.sp.1 H.sp.2 (by omega) (Nat.le_refl _)
        · have := numB_bit (q := 88) (v := v) (W := 16) (i := (i - 88).toNat) (by omega)
          rw [show (88 : Int) + ((i - 88).toNat : Int) = i by omega] at this
          rw [this]; exact bit_of (k := .u16) rfl H.dp.1 H.dp.2 (by omega) (Nat.le_refl _)
theorem mk_hB {x : H5} (H : HdrOk x.1 x.2.1 x.2.2.1 x.2.2.2.1 x.2.2.2.2) : hmk (hB x) = x := by
  unfold hmk
  have e1 := hbit_d H (n := 32) (by omega)
  have e2 := hbit_s H (n := 32) (by omega)
  have e3 := hbit_p H (n := 8) (by omega)
  have e4 := hbit_sp H (n := 16) (by omega)
  have e5 := hbit_dp H (n := 16) (by omega)
  simp only [Nat.sub_self, Int.pow_zero, Int.ediv_one] at e1 e2 e3 e4 e5
  rw [show (fun i => hbit x.1 x.2.1 x.2.2.1 x.2.2.2.1 x.2.2.2.2 i) = hB x from rfl] at e1 e2 e3 e4 e5
  rw [e1, e2, e3, e4, e5]
theorem bitW_nat (s W i : Nat) : bitW (s : Int) W i = s.testBit (W - 1 - i) := by
  unfold bitW
  rw [Nat.testBit_eq_decide_div_mod_eq, show (s : Int) / 2 ^ (W - 1 - i) % 2 = ((s / 2 ^ (W - 1 - i) % 2 : Nat) : Int) by simp]
  exact decide_eq_decide.2 (by omega)
theorem toNat_ofIntK {W n : Nat} (h : n < 2 ^ W) : (BitVec.ofInt W (n : Int)).toNat = n := by
  rw [BitVec.toNat_ofInt, Int.emod_eq_of_lt (by omega) (by exact_mod_cast h)]; rfl
theorem wrapU {k : IntKind} (hk : k.signed = false) {n : Nat} (h : n < 2 ^ k.bits) : k.wrap (n : Int) = n := by
  simp only [IntKind.wrap, hk, Bool.false_and]
  rw [Int.emod_eq_of_lt (by omega) (by exact_mod_cast h)]; simp
/-- one bit turned -/
theorem flip {k : IntKind} (hk : k.signed = false) {x : Int} (h0 : 0 ≤ x) (h1 : x < 2 ^ k.bits) {e : Int} {i : Nat} (he : e.toNat = k.bits - 1 - i) (hi : i < k.bits) :
    0 ≤ ibits .xor k x (k.wrap (1 * 2 ^ min e.toNat k.bits)) ∧ ibits .xor k x (k.wrap (1 * 2 ^ min e.toNat k.bits)) < 2 ^ k.bits ∧ ∀ j, j < k.bits → bitW (ibits .xor k x (k.wrap (1 * 2 ^ min e.toNat k.bits))) k.bits j = if j = i then !bitW x k.bits j else bitW x k.bits j := by
  obtain ⟨n, rfl⟩ := Int.eq_ofNat_of_zero_le h0
  have hn : n < 2 ^ k.bits := by exact_mod_cast h1
  rw [he, Nat.min_eq_left (by omega), Int.one_mul]
  have hp : 2 ^ (k.bits - 1 - i) < 2 ^ k.bits := Nat.pow_lt_pow_right (by omega) (by omega)
  have e1 : k.wrap (2 ^ (k.bits - 1 - i)) = ((2 ^ (k.bits - 1 - i) : Nat) : Int) := by
    rw [show (2 : Int) ^ (k.bits - 1 - i) = ((2 ^ (k.bits - 1 - i) : Nat) : Int) by simp]; exact wrapU hk hp
  have hx : n ^^^ 2 ^ (k.bits - 1 - i) < 2 ^ k.bits := Nat.xor_lt_two_pow hn hp
  have e2 : ibits .xor k (n : Int) (k.wrap (2 ^ (k.bits - 1 - i))) = ((n ^^^ 2 ^ (k.bits - 1 - i) : Nat) : Int) := by
    rw [e1]
    show k.wrap ((BitVec.ofInt k.bits (n : Int) ^^^ BitVec.ofInt k.bits ((2 ^ (k.bits - 1 - i) : Nat) : Int)).toNat) = _
    rw [BitVec.toNat_xor, toNat_ofIntK hn, toNat_ofIntK hp]
    exact wrapU hk hx
  rw [e2]
  refine ⟨Int.natCast_nonneg _, by exact_mod_cast hx, fun j hj => ?_⟩
  rw [bitW_nat, bitW_nat, Nat.testBit_xor, Nat.testBit_two_pow]
  by_cases hji : j = i
  · subst hji; simp
  · have : ¬ k.bits - 1 - i = k.bits - 1 - j := by omega
    simp [hji, this]
theorem num_of {q s : Int} {W : Nat} {v : Int → Bool} (h0 : 0 ≤ s) (h1 : s < 2 ^ W) (h : ∀ i, i < W → v (q + (i : Nat)) = bitW s W i) : s = numB q v W := by
  have := (num_eq (q := q) h0 h1 v W (Nat.le_refl _)).1 h
  simpa using this.symm
theorem with_mk (v : Int → Bool) {i : Int} {on : Bool} (h0 : 0 ≤ i) (h1 : i < 104) : hwith (hmk v).1 (hmk v).2.1 (hmk v).2.2.1 (hmk v).2.2.2.1 (hmk v).2.2.2.2 i on = hmk (upd v i on) := by
  have H := hmk_ok v
  have hb := hB_mk v h0 h1
  unfold hB at hb
  unfold hwith
  rw [hb]
  by_cases hv : v i = on
  · rw [if_pos (by simp [hv])]
    have e : upd v i on = v := by funext j; unfold upd; split <;> simp_all
    rw [e]
  · rw [if_neg (by simp [hv]; omega)]
    have hon : on = !v i := by revert hv; cases v i <;> cases on <;> simp
    subst hon
    have keep : ∀ (q : Int) (W : Nat), (i < q ∨ q + W ≤ i) → numB q (upd v i (!v i)) W = numB q v W := fun q W hq => numB_congr fun j hj => by unfold upd; rw [if_neg (by omega)]
    have turn : ∀ (q : Int) (k : IntKind) (e : Int), k.signed = false → q ≤ i → i < q + k.bits → e.toNat = k.bits - 1 - (i - q).toNat → ibits .xor k (numB q v k.bits) (k.wrap (1 * 2 ^ min e.toNat k.bits)) = numB q (upd v i (!v i)) k.bits := by
      intro q k e hk hq1 hq2 he
      have r := numB_range q v k.bits
      obtain ⟨f0, f1, f2⟩ := flip hk r.1 r.2 (i := (i - q).toNat) he (by omega)
      refine num_of f0 f1 fun j hj => ?_
      rw [f2 j hj, ← numB_bit hj]
      unfold upd
      by_cases hji : j = (i - q).toNat
      · rw [if_pos (by omega), if_pos hji, show q + (j : Int) = i by omega]
      · rw [if_neg (by omega), if_neg hji]
    have t1 := turn 0 .u32 (31 - i) rfl
    have t2 := turn 32 .u32 (31 - (i - 32)) rfl
    have t3 := turn 64 .u8 (7 - (i - 64)) rfl
    have t4 := turn 72 .u16 (15 - (i - 72)) rfl
    have t5 := turn 88 .u16 (15 - (i - 88)) rfl
    simp only [IntKind.bits] at t1 t2 t3 t4 t5
    unfold hmk
    simp only [IntKind.bits]
    split
    · rw [t1 (by omega) (by omega) (by omega), keep 32 32 (by omega), keep 64 8 (by omega), keep 72 16 (by omega), keep 88 16 (by omega)]
    · split
      · rw [t2 (by omega) (by omega) (by omega), keep 0 32 (by omega), keep 64 8 (by omega), keep 72 16 (by omega), keep 88 16 (by omega)]
      · split
        · rw [t3 (by omega) (by omega) (by omega), keep 0 32 (by omega), keep 32 32 (by omega), keep 72 16 (by omega), keep 88 16 (by omega)]
        · split
          · rw [t4 (by omega) (by omega) (by omega), keep 0 32 (by omega), keep 32 32 (by omega), keep 64 8 (by omega), keep 88 16 (by omega)]
          · rw [t5 (by omega) (by omega) (by omega), keep 0 32 (by omega), keep 32 32 (by omega), keep 64 8 (by omega), keep 72 16 (by omega)]
end Go.Proofs.Yticodddigaiipaa
