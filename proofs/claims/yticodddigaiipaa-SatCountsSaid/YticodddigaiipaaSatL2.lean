/-
  Cubes: what a row of bits' values makes of an arena. No program in sight.
-/
import Derived.Test.YticodddigaiipaaSatL1
set_option linter.unusedVariables false
set_option linter.unusedSimpArgs false
set_option linter.unusedSectionVars false
namespace Go.Proofs.Yticodddigaiipaa

abbrev Lt := Int × Bool
def l0 : Lt := (0, false)
def cubeD (L : List Lt) (v : Int → Bool) : Bool := L.all fun x => v x.1 == x.2
structure Cubic (L : List Lt) : Prop where
  var : ∀ x ∈ L, 0 ≤ x.1 ∧ x.1 < 104
  up : L.Pairwise (fun x y => x.1 < y.1)
theorem Cubic.at_ {L : List Lt} (h : Cubic L) {i : Int} (h0 : 0 ≤ i) (h1 : i < L.length) : 0 ≤ (at_ L l0 i).1 ∧ (at_ L l0 i).1 < 104 := h.var _ (at_mem h0 h1)
theorem Cubic.step {L : List Lt} (h : Cubic L) {i : Int} (h0 : 0 ≤ i) (h1 : i + 1 < L.length) : (Go.Proofs.Yticodddigaiipaa.at_ L l0 i).1 < (Go.Proofs.Yticodddigaiipaa.at_ L l0 (i + 1)).1 := by
  have a : i.toNat < L.length := by omega
  have b : (i + 1).toNat < L.length := by omega
  have e1 : Go.Proofs.Yticodddigaiipaa.at_ L l0 i = L[i.toNat] := by simp [Go.Proofs.Yticodddigaiipaa.at_, a]
  have e2 : Go.Proofs.Yticodddigaiipaa.at_ L l0 (i + 1) = L[(i + 1).toNat] := by simp [Go.Proofs.Yticodddigaiipaa.at_, b]
  rw [e1, e2]
  exact List.pairwise_iff_getElem.1 h.up _ _ a b (by omega)

/-- Cube's answer -/
def cubeF (A : List N3) (most : Int) : List Lt → List N3 × Int × Int
  | [] => (A, 1, 0)
  | x :: L => if (cubeF A most L).2.2 ≠ 0 then (A, 0, (cubeF A most L).2.2) else
    if (mkF (cubeF A most L).1 most (x.1, if x.2 then 0 else (cubeF A most L).2.1, if x.2 then (cubeF A most L).2.1 else 0)).2.2 ≠ 0 then (A, 0, (mkF (cubeF A most L).1 most (x.1, if x.2 then 0 else (cubeF A most L).2.1, if x.2 then (cubeF A most L).2.1 else 0)).2.2)
    else mkF (cubeF A most L).1 most (x.1, if x.2 then 0 else (cubeF A most L).2.1, if x.2 then (cubeF A most L).2.1 else 0)
theorem cubeF_err {A : List N3} {most c : Int} (hc : c ≠ 0) : ∀ (L : List Lt) (j : Nat), cubeF A most (L.drop j) = (A, 0, c) → cubeF A most L = (A, 0, c)
  | L, 0, h => by simpa using h
  | [], j + 1, h => by simpa using h
  | x :: L, j + 1, h => by
    have ih := cubeF_err hc L j (by simpa using h)
    rw [cubeF, ih, if_pos hc]
/-- the literals from i + 1 on are made: node r -/
structure CubeInv (A A1 : List N3) (most : Int) (L : List Lt) (i : Int) (r : Int) : Prop where
  wf : Wf A1
  pre : A <+: A1
  room : (A1.length : Int) ≤ most
  ok : Okn A1 r
  den : ∀ v, den A1 v r = cubeD (L.drop (i + 1).toNat) v
  lev : ∀ x ∈ L.take (i + 1).toNat, x.1 < lev A1 r
  nil : L = [] → r = 1 ∧ A1 = A
  fn : cubeF A most (L.drop (i + 1).toNat) = (A1, r, 0)
theorem cube_start {A : List N3} {most : Int} {L : List Lt} (hW : Wf A) (hm : (A.length : Int) ≤ most) (hL : Cubic L) : CubeInv A A most L ((L.length : Int) - 1) 1 where
  wf := hW
  pre := List.prefix_refl _
  room := hm
  ok := ⟨by omega, by have := hW.len; omega⟩
  den v := by rw [List.drop_of_length_le (by omega)]; rfl
  lev x hx := by
    have := (hL.var x (List.mem_of_mem_take hx)).2
    rw [Go.Proofs.Yticodddigaiipaa.lev, hW.hi]; exact this
  nil _ := ⟨rfl, rfl⟩
  fn := by rw [List.drop_of_length_le (by omega)]; rfl
theorem cube_fn {A A1 : List N3} {most : Int} {L : List Lt} {i r lo hi : Int} (h : CubeInv A A1 most L i r) (h0 : 0 ≤ i) (h1 : i < L.length) (hlo : lo = if (at_ L l0 i).2 then 0 else r) (hhi : hi = if (at_ L l0 i).2 then r else 0) :
    cubeF A most (L.drop i.toNat) = if (mkF A1 most ((at_ L l0 i).1, lo, hi)).2.2 ≠ 0 then (A, 0, (mkF A1 most ((at_ L l0 i).1, lo, hi)).2.2) else mkF A1 most ((at_ L l0 i).1, lo, hi) := by
  have hin : i.toNat < L.length := by omega
  have e : at_ L l0 i = L[i.toNat] := by simp [at_, hin]
  have hf := h.fn
  rw [show (i + 1).toNat = i.toNat + 1 by omega] at hf
  rw [List.drop_eq_getElem_cons hin, cubeF, hf, ← e, hlo, hhi]
  simp
theorem cube_bad {A A1 : List N3} {most : Int} {L : List Lt} {i r lo hi : Int} (h : CubeInv A A1 most L i r) (h0 : 0 ≤ i) (h1 : i < L.length) (hlo : lo = if (at_ L l0 i).2 then 0 else r) (hhi : hi = if (at_ L l0 i).2 then r else 0) (hc : (mkF A1 most ((at_ L l0 i).1, lo, hi)).2.2 ≠ 0) :
    cubeF A most L = (A, 0, (mkF A1 most ((at_ L l0 i).1, lo, hi)).2.2) :=
  cubeF_err hc L i.toNat (by rw [cube_fn h h0 h1 hlo hhi, if_pos hc])
theorem cube_step {A A1 : List N3} {most : Int} {L : List Lt} {i r lo hi : Int} (h : CubeInv A A1 most L i r) (hL : Cubic L) (h0 : 0 ≤ i) (h1 : i < L.length) (hlo : lo = if (at_ L l0 i).2 then 0 else r) (hhi : hi = if (at_ L l0 i).2 then r else 0) :
    Res A1 (mkF A1 most ((at_ L l0 i).1, lo, hi)).1 most (mkF A1 most ((at_ L l0 i).1, lo, hi)).2.2 (CubeInv A (mkF A1 most ((at_ L l0 i).1, lo, hi)).1 most L (i - 1) (mkF A1 most ((at_ L l0 i).1, lo, hi)).2.1) := by
  have hx := hL.at_ h0 h1
  have hl2 := h.wf.len
  have l0' : lev A1 0 = 104 := by rw [lev, h.wf.lo]; rfl
  have ok0 : Okn A1 0 := ⟨Int.le_refl _, by omega⟩
  have hi' : (i + 1).toNat = i.toNat + 1 := by omega
  have hin : i.toNat < L.length := by omega
  have e : at_ L l0 i = L[i.toNat] := by simp [at_, hin]
  have hr : (at_ L l0 i).1 < lev A1 r := by
    refine h.lev _ ?_
    rw [hi', e]
    exact List.mem_take_iff_getElem.2 ⟨i.toNat, by omega, rfl⟩
  have hm := mk_res (A := A1) (most := most) (x := ((at_ L l0 i).1, lo, hi)) h.wf h.room hx (by subst hlo; split; exact ok0; exact h.ok) (by subst hhi; split; exact h.ok; exact ok0)
    (by subst hlo; simp only []; split <;> omega) (by subst hhi; simp only []; split <;> omega)
  generalize hM : mkF A1 most ((at_ L l0 i).1, lo, hi) = M at hm ⊢
  refine ⟨hm.wf, hm.pre, hm.room, hm.ok.imp (fun ⟨he, h1', h2', h3'⟩ => ⟨he, hm.wf, h.pre.trans hm.pre, hm.room, h1', fun v => ?_, fun x hxm => ?_, fun hn => ?_, ?_⟩) id⟩
  · rw [h2' v]
    have ed : (i - 1 + 1).toNat = i.toNat := by omega
    have dc : L.drop i.toNat = L[i.toNat] :: L.drop (i.toNat + 1) := List.drop_eq_getElem_cons hin
    rw [ed, dc, ← e]
    have hd := h.den v
    rw [hi'] at hd
    simp only [cubeD, List.all_cons] at hd ⊢
    subst hlo; subst hhi
    cases hv : v (at_ L l0 i).1 <;> cases hb : (at_ L l0 i).2 <;> simp [hd, den_zero]
  · have ed : (i - 1 + 1).toNat = i.toNat := by omega
    rw [ed] at hxm
    obtain ⟨j, hj, rfl⟩ := List.mem_take_iff_getElem.1 hxm
    have hlt : j < i.toNat := by omega
    have := List.pairwise_iff_getElem.1 hL.up j i.toNat (by omega) hin hlt
    rw [← e] at this
    exact Int.lt_of_lt_of_le this h3'
  · subst hn; simp at h1; omega
  · have ed : (i - 1 + 1).toNat = i.toNat := by omega
    have hf := cube_fn h h0 h1 hlo hhi
    rw [ed, hf, hM, if_neg (by simpa using he)]
    rw [← he]
end Go.Proofs.Yticodddigaiipaa
