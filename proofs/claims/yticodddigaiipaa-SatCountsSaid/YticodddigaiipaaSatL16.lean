/-
  Counting all ways, one more each round.
-/
import Derived.Test.YticodddigaiipaaSatL15
import Derived.Test.YticodddigaiipaaSatS9
set_option linter.unusedVariables false
set_option linter.unusedSectionVars false
set_option linter.unusedSimpArgs false
namespace Go.Proofs.Yticodddigaiipaa
open Go.RowKit

/-- the way number w -/
def wayW (L : List Ex) (w : Nat) : Val := apN (varsL L 104) w (varsL L 104).length
def lstW (L : List Ex) (i : Int) (w : Nat) : H5 := match fstW L i w with | some q => hmk (wayW L q) | none => h50
theorem cntW_succ (L : List Ex) (i : Int) (w : Nat) : cntW L i (w + 1) = cntW L i w + if sem L i (wayW L w) then 1 else 0 := by
  unfold cntW wayW
  rw [List.range_succ, List.countP_append]; simp [List.countP_cons]
theorem cntW_le (L : List Ex) (i : Int) (w : Nat) : cntW L i w ≤ w := by
  unfold cntW; have := List.countP_le_length (p := fun q => sem L i (apN (varsL L 104) q (varsL L 104).length)) (l := List.range w); simpa using this
theorem fstW_succ (L : List Ex) (i : Int) (w : Nat) : fstW L i (w + 1) = (fstW L i w).or (if sem L i (wayW L w) then some w else none) := by
  unfold fstW wayW
  rw [List.range_succ, List.find?_append]
  simp only [List.find?_cons, List.find?_nil]
  cases sem L i (apN (varsL L 104) w (varsL L 104).length) <;> rfl
theorem set_bitsV {v : Val} {i : Int} {b : Bool} (h0 : 0 ≤ i) (h1 : i < 104) : (bitsV v 104).set i.toNat b = bitsV (upd v i b) 104 := by
  apply List.ext_getElem?
  intro q
  by_cases hq : q < 104
  · rw [List.getElem?_set]
    by_cases hqi : i.toNat = q
    · rw [if_pos hqi, if_pos (by rw [bitsV_len]; omega)]
      simp only [bitsV, List.getElem?_map, List.getElem?_range hq, Option.map_some]
      rw [show (q : Int) = i by omega, upd_same]
    · rw [if_neg hqi]
      simp only [bitsV, List.getElem?_map, List.getElem?_range hq, Option.map_some]
      rw [upd_ne _ _ (by omega)]
  · rw [List.getElem?_eq_none (by rw [List.length_set, bitsV_len]; omega), List.getElem?_eq_none (by rw [bitsV_len]; omega)]
theorem rep_bitsV : List.replicate 104 false = bitsV (fun _ => false) 104 := by
  apply List.ext_getElem?
  intro q
  by_cases hq : q < 104
  · rw [List.getElem?_replicate, if_pos hq]
    simp only [bitsV, List.getElem?_map, List.getElem?_range hq, Option.map_some]
  · rw [List.getElem?_eq_none (by simp; omega), List.getElem?_eq_none (by rw [bitsV_len]; omega)]
theorem mk_bitsV (v : Val) : hmk (fun z => at_ (bitsV v 104) false z) = hmk v := hmk_congr fun i h0 h1 => at_bitsV h0 (by omega)
theorem shl_small {k : Nat} (h : k ≤ 60) : IntKind.i64.wrap (1 * 2 ^ min ((k : Int)).toNat IntKind.i64.bits) = ((2 ^ k : Nat) : Int) := by
  rw [Int.toNat_natCast, show min k IntKind.i64.bits = k from Nat.min_eq_left (by simp [IntKind.bits]; omega), Int.one_mul, show (2 : Int) ^ k = ((2 ^ k : Nat) : Int) by simp]
  have : 2 ^ k ≤ 2 ^ 60 := Nat.pow_le_pow_right (by omega) h
  generalize 2 ^ k = q at this ⊢
  exact wrap_i64 ⟨by omega, by omega⟩
theorem bit_i64 {w k i : Nat} {e : Int} (hk : k ≤ 60) (hi : i < k) (he : e = (k : Int) - 1 - i) : decide ((((w : Nat) : Int).fdiv (2 ^ min e.toNat IntKind.i64.bits)).tmod 2 = 1) = bitW (w : Int) k i := by
  subst he
  rw [show ((k : Int) - 1 - i).toNat = k - 1 - i by omega, show min (k - 1 - i) IntKind.i64.bits = k - 1 - i from Nat.min_eq_left (by simp [IntKind.bits]; omega)]
  have hp : (0 : Int) < 2 ^ (k - 1 - i) := Int.pow_pos (by omega)
  rw [Int.fdiv_eq_ediv_of_nonneg _ (Int.le_of_lt hp), Int.tmod_eq_emod_of_nonneg (Int.ediv_nonneg (by omega) (Int.le_of_lt hp))]
  rfl
theorem at_set {α : Type} {L : List α} {d x : α} {i j : Int} (hi : 0 ≤ i) (hj : 0 ≤ j) (hil : i < L.length) : at_ (L.set i.toNat x) d j = if j = i then x else at_ L d j := by
  simp only [at_]
  by_cases h : j = i
  · subst h; rw [if_pos rfl, List.getElem?_set_self (by omega)]; rfl
  · rw [if_neg h, List.getElem?_set_ne (by omega)]
theorem at_rep {α : Type} {d : α} {n : Nat} {j : Int} : at_ (List.replicate n d) d j = d := by
  simp only [at_, List.getElem?_replicate]; split <;> rfl

/-- what the three lists hold behind w ways, and one way more of the first i -/
structure CtInv (L : List Ex) (n : Nat) (w i : Nat) (N : List Int) (M : List H5) (S : List Bool) : Prop where
  ln : N.length = n
  lm : M.length = n
  ls : S.length = n
  an : ∀ j : Int, 0 ≤ j → j < n → at_ N 0 j = (cntW L j (if j < i then w + 1 else w) : Nat)
  am : ∀ j : Int, 0 ≤ j → j < n → at_ M h50 j = lstW L j (if j < i then w + 1 else w)
  asm : ∀ j : Int, 0 ≤ j → j < n → at_ S false j = (fstW L j (if j < i then w + 1 else w)).isSome
theorem CtInv.start (L : List Ex) (n : Nat) : CtInv L n 0 0 (List.replicate n 0) (List.replicate n h50) (List.replicate n false) := by
  refine ⟨by simp, by simp, by simp, fun j h0 h1 => ?_, fun j h0 h1 => ?_, fun j h0 h1 => ?_⟩ <;> rw [if_neg (by omega), at_rep] <;> rfl
theorem CtInv.wrap {L : List Ex} {n w : Nat} {N : List Int} {M : List H5} {S : List Bool} (h : CtInv L n w n N M S) : CtInv L n (w + 1) 0 N M S := by
  refine ⟨h.ln, h.lm, h.ls, fun j h0 h1 => ?_, fun j h0 h1 => ?_, fun j h0 h1 => ?_⟩
  · rw [h.an j h0 h1, if_pos h1, if_neg (by omega)]
  · rw [h.am j h0 h1, if_pos h1, if_neg (by omega)]
  · rw [h.asm j h0 h1, if_pos h1, if_neg (by omega)]
section
variable {L : List Ex} {n w i : Nat} {N : List Int} {M : List H5} {S : List Bool} (h : CtInv L n w i N M S) (hi : i < n)
include h hi
theorem CtInv.no (hb : sem L (i : Int) (wayW L w) = false) : CtInv L n w (i + 1) N M S := by
  have key : ∀ j : Int, 0 ≤ j → j < n → cntW L j (if j < i then w + 1 else w) = cntW L j (if j < ((i + 1 : Nat) : Int) then w + 1 else w) ∧ fstW L j (if j < i then w + 1 else w) = fstW L j (if j < ((i + 1 : Nat) : Int) then w + 1 else w) := by
    intro j h0 h1
    by_cases hj : j = i
    · subst hj
      rw [if_neg (by omega), if_pos (by omega), cntW_succ, fstW_succ, hb]; simp
    · by_cases hl : j < i
      · rw [if_pos hl, if_pos (by omega)]; exact ⟨rfl, rfl⟩
      · rw [if_neg hl, if_neg (by omega)]; exact ⟨rfl, rfl⟩
  refine ⟨h.ln, h.lm, h.ls, fun j h0 h1 => ?_, fun j h0 h1 => ?_, fun j h0 h1 => ?_⟩
  · rw [h.an j h0 h1, (key j h0 h1).1]
  · rw [h.am j h0 h1]; unfold lstW; rw [(key j h0 h1).2]
  · rw [h.asm j h0 h1, (key j h0 h1).2]
theorem CtInv.yes {N' : List Int} {M' : List H5} {S' : List Bool} (hb : sem L (i : Int) (wayW L w) = true) (hN : N' = N.set i (at_ N 0 (i : Int) + 1)) (hM : M' = if at_ S false (i : Int) then M else M.set i (hmk (wayW L w))) (hS : S' = if at_ S false (i : Int) then S else S.set i true) : CtInv L n w (i + 1) N' M' S' := by
  have hlN := h.ln
  have hlM := h.lm
  have hlS := h.ls
  have es := h.asm i (by omega) (by omega)
  rw [if_neg (by omega)] at es
  refine ⟨by rw [hN, List.length_set]; exact hlN, by rw [hM]; split <;> simp [hlM], by rw [hS]; split <;> simp [hlS], fun j h0 h1 => ?_, fun j h0 h1 => ?_, fun j h0 h1 => ?_⟩
  · have := at_set (L := N) (d := 0) (x := at_ N 0 (i : Int) + 1) (i := (i : Int)) (j := j) (by omega) h0 (by omega)
    rw [Int.toNat_natCast] at this
    rw [hN, this]
    by_cases hj : j = i
    · subst hj
      rw [if_pos rfl, if_pos (by omega), h.an i (by omega) (by omega), if_neg (by omega), cntW_succ, hb]; simp
    · rw [if_neg hj, h.an j h0 h1]
      by_cases hl : j < i
      · rw [if_pos hl, if_pos (by omega)]
      · rw [if_neg hl, if_neg (by omega)]
  · rw [hM]
    by_cases hj : j = i
    · subst hj
      rw [show (if (i : Int) < ((i + 1 : Nat) : Int) then w + 1 else w) = w + 1 from if_pos (by omega)]
      have hf := fstW_succ L i w
      rw [hb] at hf
      cases hq : fstW L (i : Int) w with
      | some q =>
        rw [hq] at es hf
        simp only [Option.isSome_some] at es
        rw [es, if_pos rfl, h.am i (by omega) (by omega), if_neg (by omega)]
        unfold lstW; rw [hf, hq]; rfl
      | none =>
        rw [hq] at es hf
        simp only [Option.isSome_none] at es
        have := at_set (L := M) (d := h50) (x := hmk (wayW L w)) (i := (i : Int)) (j := (i : Int)) (by omega) (by omega) (by omega)
        rw [Int.toNat_natCast, if_pos rfl] at this
        rw [es, if_neg (by decide), this]
        unfold lstW; rw [hf]; rfl
    · have e1 : at_ (if at_ S false (i : Int) = true then M else M.set i (hmk (wayW L w))) h50 j = at_ M h50 j := by
        split
        · rfl
        · have := at_set (L := M) (d := h50) (x := hmk (wayW L w)) (i := (i : Int)) (j := j) (by omega) h0 (by omega)
          rw [Int.toNat_natCast, if_neg hj] at this; exact this
      rw [e1, h.am j h0 h1]
      by_cases hl : j < i
      · rw [if_pos hl, if_pos (by omega)]
      · rw [if_neg hl, if_neg (by omega)]
  · rw [hS]
    by_cases hj : j = i
    · subst hj
      rw [show (if (i : Int) < ((i + 1 : Nat) : Int) then w + 1 else w) = w + 1 from if_pos (by omega), fstW_succ, hb]
      have hr : ((fstW L (i : Int) w).or (if true = true then some w else none)).isSome = true := by rw [Option.isSome_or]; simp
      rw [hr]
      split
      · assumption
      · have := at_set (L := S) (d := false) (x := true) (i := (i : Int)) (j := (i : Int)) (by omega) (by omega) (by omega)
        rw [Int.toNat_natCast, if_pos rfl] at this; exact this
    · have e1 : at_ (if at_ S false (i : Int) = true then S else S.set i true) false j = at_ S false j := by
        split
        · rfl
        · have := at_set (L := S) (d := false) (x := true) (i := (i : Int)) (j := j) (by omega) h0 (by omega)
          rw [Int.toNat_natCast, if_neg hj] at this; exact this
      rw [e1, h.asm j h0 h1]
      by_cases hl : j < i
      · rw [if_pos hl, if_pos (by omega)]
      · rw [if_neg hl, if_neg (by omega)]
end
end Go.Proofs.Yticodddigaiipaa
