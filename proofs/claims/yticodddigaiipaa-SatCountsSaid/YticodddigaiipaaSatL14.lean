/-
  A header's bits as a list.
-/
import Derived.Test.YticodddigaiipaaSatL13
import Derived.Test.YticodddigaiipaaSatK19
set_option linter.unusedVariables false
set_option linter.unusedSimpArgs false
namespace Go.Proofs.Yticodddigaiipaa
open Go.RowKit

def bitsOf (s : Int) (n : Nat) : List Bool := (List.range n).map fun i => bitW s n i
def bitsV (v : Val) (n : Nat) : List Bool := (List.range n).map fun i : Nat => v (i : Int)
theorem bitsV_len (v : Val) (n : Nat) : (bitsV v n).length = n := by simp [bitsV]
theorem bitsOf_num (q : Nat) (v : Val) (W : Nat) : bitsOf (numB (q : Int) v W) W = (List.range W).map fun i : Nat => v ((q + i : Nat) : Int) := by
  unfold bitsOf
  refine List.map_congr_left fun i hi => ?_
  have := numB_bit (q := (q : Int)) (v := v) (List.mem_range.1 hi)
  rw [← this]; congr 1
theorem bitsV_add (v : Val) (n m : Nat) : bitsV v (n + m) = bitsV v n ++ (List.range m).map fun i : Nat => v ((n + i : Nat) : Int) := by
  unfold bitsV; rw [List.range_add, List.map_append, List.map_map]; rfl
theorem bits_hdr {x : H5} (H : HdrOk x.1 x.2.1 x.2.2.1 x.2.2.2.1 x.2.2.2.2) : [] ++ bitsOf x.1 32 ++ bitsOf x.2.1 32 ++ bitsOf x.2.2.1 8 ++ bitsOf x.2.2.2.1 16 ++ bitsOf x.2.2.2.2 16 = bitsV (hB x) 104 := by
  have hx := mk_hB H
  have e1 : x.1 = numB ((0 : Nat) : Int) (hB x) 32 := (congrArg (fun y : H5 => y.1) hx).symm
  have e2 : x.2.1 = numB ((32 : Nat) : Int) (hB x) 32 := (congrArg (fun y : H5 => y.2.1) hx).symm
  have e3 : x.2.2.1 = numB ((64 : Nat) : Int) (hB x) 8 := (congrArg (fun y : H5 => y.2.2.1) hx).symm
  have e4 : x.2.2.2.1 = numB ((72 : Nat) : Int) (hB x) 16 := (congrArg (fun y : H5 => y.2.2.2.1) hx).symm
  have e5 : x.2.2.2.2 = numB ((88 : Nat) : Int) (hB x) 16 := (congrArg (fun y : H5 => y.2.2.2.2) hx).symm
  generalize hv : hB x = v at *
  rw [e1, e2, e3, e4, e5, bitsOf_num, bitsOf_num, bitsOf_num, bitsOf_num, bitsOf_num]
  rw [show (104 : Nat) = 0 + 32 + 32 + 8 + 16 + 16 from rfl, bitsV_add, bitsV_add, bitsV_add, bitsV_add, bitsV_add]
  rfl
theorem at_bitsV {v : Val} {n : Nat} {j : Int} (h0 : 0 ≤ j) (h1 : j < n) : at_ (bitsV v n) false j = v j := by
  have : j.toNat < n := by omega
  simp [at_, bitsV, this]; congr 1; omega
theorem set_bits {v : Val} {i : Int} {on : Bool} (h0 : 0 ≤ i) (h1 : i < 104) : hmk (fun z => at_ ((bitsV v 104).set i.toNat on) false z) = hmk (upd v i on) := by
  refine hmk_congr fun j hj0 hj1 => ?_
  by_cases hji : j = i
  · subst hji
    rw [upd_same]
    have : j.toNat < (bitsV v 104).length := by rw [bitsV_len]; omega
    simp [at_, this]
  · rw [upd_ne _ _ hji, ← at_bitsV (v := v) (n := 104) hj0 (by omega)]
    simp only [at_]
    rw [List.getElem?_set_ne (by omega)]
theorem blk_step {ob ob1 ob2 : Option Nat} {N M : Nat} (h1 : ob1 = ob ∨ ∃ j, ob1 = some j ∧ N ≤ j) (h2 : ob2 = ob1 ∨ ∃ j, ob2 = some j ∧ M ≤ j) (h : N ≤ M) : ob2 = ob ∨ ∃ j, ob2 = some j ∧ N ≤ j := by
  rcases h2 with h2 | ⟨j, h2, h3⟩
  · rw [h2]; exact h1
  · exact .inr ⟨j, h2, by omega⟩
theorem bit_rem {x : Int} {W k : Nat} {i : Int} (h0 : 0 ≤ x) (hk : k < W) (hW : W ≤ 32) (hi : i = (W : Int) - 1 - k) : decide ((x.fdiv (2 ^ min i.toNat IntKind.u32.bits)).tmod 2 = 1) = bitW x W k := by
  subst hi
  rw [show ((W : Int) - 1 - k).toNat = W - 1 - k by omega, show min (W - 1 - k) IntKind.u32.bits = W - 1 - k from Nat.min_eq_left (by simp [IntKind.bits]; omega)]
  have hp : (0 : Int) < 2 ^ (W - 1 - k) := Int.pow_pos (by omega)
  rw [Int.fdiv_eq_ediv_of_nonneg _ (Int.le_of_lt hp), Int.tmod_eq_emod_of_nonneg (Int.ediv_nonneg h0 (Int.le_of_lt hp))]
  rfl
theorem bitsP_succ {x : Int} {W k : Nat} : ((List.range (k + 1)).map fun i => bitW x W i) = ((List.range k).map fun i => bitW x W i) ++ [bitW x W k] := by simp [List.range_succ]
theorem num_rng {q : Int} {v : Val} {k : Nat} (h : k ≤ 31) : 0 ≤ numB q v k ∧ numB q v k < 2147483648 := by
  have h1 := numB_range q v k
  have : (2 : Int) ^ k ≤ 2 ^ 31 := by exact_mod_cast Nat.pow_le_pow_right (n := 2) (by omega) h
  omega
theorem num_yes {q : Int} {v : Val} {k : Nat} (h : k ≤ 31) (hb : v (q + (k : Int)) = true) : IntKind.u32.wrap (IntKind.u32.wrap (numB q v k * 2) + 1) = numB q v (k + 1) := by
  have := num_rng (q := q) (v := v) h
  rw [wrap_u32 (n := numB q v k * 2) ⟨by omega, by omega⟩, wrap_u32 ⟨by omega, by omega⟩, numB, hb, if_pos rfl]; omega
theorem num_no {q : Int} {v : Val} {k : Nat} (h : k ≤ 31) (hb : v (q + (k : Int)) = false) : IntKind.u32.wrap (numB q v k * 2) = numB q v (k + 1) := by
  have := num_rng (q := q) (v := v) h
  rw [wrap_u32 (n := numB q v k * 2) ⟨by omega, by omega⟩, numB, hb]; simp; omega
end Go.Proofs.Yticodddigaiipaa
