/-
  How many nodes an arena's operations may make, by the bits that are asked; and the law of a set with a bit held.
-/
import Derived.Test.YticodddigaiipaaSatL1
set_option linter.unusedVariables false
set_option linter.unusedSectionVars false
set_option linter.unusedSimpArgs false
namespace Go.Proofs.Yticodddigaiipaa
open Go.RowKit

/-- how many of the bits lie from lv on -/
def cntV (V : List Int) (lv : Int) : Nat := (V.filter fun x => decide (lv ≤ x)).length
theorem cnt_le {V : List Int} {a b : Int} (h : a ≤ b) : cntV V b ≤ cntV V a := by
  induction V with
  | nil => simp [cntV]
  | cons x V ih =>
    simp only [cntV, List.filter_cons] at *
    by_cases h1 : b ≤ x
    · have h2 : a ≤ x := by omega
      simp only [h1, h2, decide_true, if_true, List.length_cons]; omega
    · simp only [h1, decide_false, Bool.false_eq_true, if_false]
      split
      · simp only [List.length_cons]; omega
      · exact ih
theorem cnt_lt {V : List Int} {a b : Int} (hm : a ∈ V) (h : a < b) : cntV V b + 1 ≤ cntV V a := by
  induction V with
  | nil => cases hm
  | cons x V ih =>
    have hle := cnt_le (V := V) (show a ≤ b by omega)
    simp only [cntV, List.filter_cons] at *
    rcases List.mem_cons.1 hm with rfl | hm
    · have h1 : ¬ b ≤ a := by omega
      simp [h1]; omega
    · have := ih hm
      by_cases h1 : b ≤ x
      · have h2 : a ≤ x := by omega
        simp only [h1, h2, decide_true, if_true, List.length_cons]; omega
      · simp only [h1, decide_false, Bool.false_eq_true, if_false]
        split
        · simp only [List.length_cons]; omega
        · exact this
theorem cnt_all {V : List Int} {a : Int} : cntV V a ≤ V.length := List.length_filter_le _ _

/-- all nodes ask bits of V -/
def LvIn (V : List Int) (A : List N3) : Prop := ∀ x ∈ A.drop 2, x.1 ∈ V
/-- A' has grown out of A by fewer than M nodes -/
structure Gw (V : List Int) (A A' : List N3) (most e : Int) (M : Nat) : Prop where
  lv : LvIn V A'
  len : A'.length < A.length + M
  full : e ≠ 0 → most < ((A.length + M : Nat) : Int)
def Grows (A A' : List N3) (most e lv : Int) : Prop := ∀ V : List Int, LvIn V A → Gw V A A' most e (2 ^ cntV V lv)

theorem Gw.mono {V : List Int} {A A' : List N3} {most e : Int} {M N : Nat} (h : Gw V A A' most e M) (hm : M ≤ N) : Gw V A A' most e N := ⟨h.lv, by have := h.len; omega, fun he => by have := h.full he; omega⟩
theorem pow_cnt {V : List Int} {a b : Int} (h : a ≤ b) : 2 ^ cntV V b ≤ 2 ^ cntV V a := Nat.pow_le_pow_right (by omega) (cnt_le h)
theorem Grows.mono {A A' : List N3} {most e a b : Int} (h : Grows A A' most e b) (hl : a ≤ b) : Grows A A' most e a := fun V hV => (h V hV).mono (pow_cnt hl)
theorem grows_same (A : List N3) (most lv : Int) : Grows A A most 0 lv := fun V hV => ⟨hV, by have := Nat.pow_pos (n := cntV V lv) (show 0 < 2 by omega); omega, fun h => absurd rfl h⟩
theorem Grows.zero {A A' : List N3} {most e a : Int} (h : Grows A A' most e a) (he : ¬ e ≠ 0) : Grows A A' most 0 a := by
  have : e = 0 := Decidable.of_not_not he
  subst this; exact h
theorem Grows.of0 {A A' : List N3} {most e a : Int} (h : Grows A A' most e a) (he : e = 0) : Grows A A' most 0 a := he ▸ h
/-- refused, and cut back -/
theorem Grows.back {A A' : List N3} {most e a : Int} (h : Grows A A' most e a) : Grows A A most e a := fun V hV => ⟨hV, by have := Nat.pow_pos (n := cntV V a) (show 0 < 2 by omega); omega, (h V hV).full⟩
theorem lev_mem {A : List N3} (h : Wf A) {f : Int} (hf : Okn A f) (hl : lev A f < 104) : ∃ x ∈ A.drop 2, x.1 = lev A f := by
  have h2 : 2 ≤ f := by
    have := (lev_le h hf).2.2
    unfold Okn at hf; omega
  have hm : nd A f = at_ (A.drop 2) n0 (f - 2) := by
    simp only [nd, at_, List.getElem?_drop]
    rw [show 2 + (f - 2).toNat = f.toNat by omega]
  exact ⟨nd A f, by rw [hm]; exact at_mem (by omega) (by unfold Okn at hf; simp; omega), rfl⟩
theorem mk_gw {V : List Int} {A : List N3} {most : Int} {x : N3} (hx : x.1 ∈ V) (hV : LvIn V A) (h2 : 2 ≤ A.length) : LvIn V (mkF A most x).1 ∧ (mkF A most x).1.length ≤ A.length + 1 ∧ ((mkF A most x).2.2 ≠ 0 → most ≤ A.length) := by
  unfold mkF
  split
  · exact ⟨hV, by simp, fun h => absurd rfl h⟩
  · split
    · exact ⟨hV, by simp, fun h => absurd rfl h⟩
    · split
      · exact ⟨hV, by simp, fun _ => by assumption⟩
      · refine ⟨?_, by simp, fun h => absurd rfl h⟩
        intro y hy
        simp only [] at hy
        rw [List.drop_append_of_le_length h2] at hy
        rcases List.mem_append.1 hy with hy | hy
        · exact hV y hy
        · rw [List.mem_singleton.1 hy]; exact hx
section
variable {A A1 A2 : List N3} {most e lv a b : Int}
theorem grows_two (hlv : ∃ x ∈ A.drop 2, x.1 = lv) (h1 : Grows A A1 most 0 a) (ha : lv < a) (h2 : Grows A1 A2 most e b) (hb : lv < b) : Grows A A2 most e lv := fun V hV => by
  obtain ⟨x, hx, rfl⟩ := hlv
  have hm := hV x hx
  have g1 := h1 V hV
  have g2 := h2 V g1.lv
  have c1 := cnt_lt hm ha
  have c2 := cnt_lt hm hb
  have p1 : 2 ^ cntV V a * 2 ≤ 2 ^ cntV V x.1 := by rw [← Nat.pow_succ]; exact Nat.pow_le_pow_right (by omega) c1
  have p2 : 2 ^ cntV V b * 2 ≤ 2 ^ cntV V x.1 := by rw [← Nat.pow_succ]; exact Nat.pow_le_pow_right (by omega) c2
  have l1 := g1.len
  have l2 := g2.len
  exact ⟨g2.lv, by omega, fun he => by have := g2.full he; omega⟩
theorem grows_mk {r1 r2 : Int} (hlv : ∃ x ∈ A.drop 2, x.1 = lv) (h1 : Grows A A1 most 0 a) (ha : lv < a) (h2 : Grows A1 A2 most 0 b) (hb : lv < b) (hl : 2 ≤ A2.length) : Grows A (mkF A2 most (lv, r1, r2)).1 most (mkF A2 most (lv, r1, r2)).2.2 lv := fun V hV => by
  obtain ⟨x, hx, rfl⟩ := hlv
  have hm := hV x hx
  have g1 := h1 V hV
  have g2 := h2 V g1.lv
  have c1 := cnt_lt hm ha
  have c2 := cnt_lt hm hb
  have p1 : 2 ^ cntV V a * 2 ≤ 2 ^ cntV V x.1 := by rw [← Nat.pow_succ]; exact Nat.pow_le_pow_right (by omega) c1
  have p2 : 2 ^ cntV V b * 2 ≤ 2 ^ cntV V x.1 := by rw [← Nat.pow_succ]; exact Nat.pow_le_pow_right (by omega) c2
  have l1 := g1.len
  have l2 := g2.len
  have k := mk_gw (most := most) (x := (x.1, r1, r2)) hm g2.lv hl
  exact ⟨k.1, by have := k.2.1; omega, fun he => by have := k.2.2 he; omega⟩
end

/-! ### A bit held -/
def upd (v : Int → Bool) (i : Int) (b : Bool) : Int → Bool := fun j => if j = i then b else v j
theorem den_indep {A : List N3} (h : Wf A) {v u : Int → Bool} : ∀ (m : Nat) (f : Int), f.toNat ≤ m → Okn A f → (∀ j, lev A f ≤ j → v j = u j) → den A v f = den A u f := by
  intro m
  induction m with
  | zero =>
    intro f hm hf hv
    have : f = 0 := by unfold Okn at hf; omega
    subst this; rfl
  | succ m ih =>
    intro f hm hf hv
    by_cases h2 : 2 ≤ f
    · have n := h.node f h2 hf.2
      rw [den_step h v h2 hf.2, den_step h u h2 hf.2, hv (nd A f).1 (Int.le_refl _)]
      have e1 := ih (nd A f).2.1 (by omega) ⟨n.2.2.1, by unfold Okn at hf; omega⟩ (fun j hj => hv j (by simp only [lev] at *; omega))
      have e2 := ih (nd A f).2.2 (by omega) ⟨n.2.2.2.2.1, by unfold Okn at hf; omega⟩ (fun j hj => hv j (by simp only [lev] at *; omega))
      rw [e1, e2]
    · have : f = 0 ∨ f = 1 := by unfold Okn at hf; omega
      rcases this with rfl | rfl <;> rfl
def HoldGood (A A' : List N3) (i : Int) (on : Bool) (f r : Int) : Prop := Okn A' r ∧ (∀ v, den A' v r = den A (upd v i on) f) ∧ lev A f ≤ lev A' r
def HeldOk (A : List N3) (i : Int) (on : Bool) (S : Int → Option Int) : Prop := ∀ p r, S p = some r → Okn A p ∧ HoldGood A A i on p r
theorem HoldGood.pre {A A' B : List N3} {i : Int} {on : Bool} {f r : Int} (hA : Wf A') (hB : Wf B) (hp : A' <+: B) (h : HoldGood A A' i on f r) : HoldGood A B i on f r :=
  ⟨ok_pre hp h.1, fun v => by rw [den_pre hp hA hB v r h.1]; exact h.2.1 v, by
    have e : lev B r = lev A' r := by rw [lev, nd_pre hp h.1]
    rw [e]; exact h.2.2⟩
theorem HoldGood.base {A B C : List N3} {i : Int} {on : Bool} {f r : Int} (hA : Wf A) (hB : Wf B) (hp : A <+: B) (hf : Okn A f) (h : HoldGood A C i on f r) : HoldGood B C i on f r :=
  ⟨h.1, fun v => by rw [den_pre hp hA hB _ f hf]; exact h.2.1 v, by
    have e1 : lev B f = lev A f := by rw [lev, nd_pre hp hf]
    rw [e1]; exact h.2.2⟩
theorem HeldOk.pre {A B : List N3} {i : Int} {on : Bool} {S : Int → Option Int} (hA : Wf A) (hB : Wf B) (hp : A <+: B) (h : HeldOk A i on S) : HeldOk B i on S := fun p r hs => by
  obtain ⟨h1, h2⟩ := h p r hs
  exact ⟨ok_pre hp h1, (h2.pre hA hB hp).base hA hB hp h1⟩
theorem HeldOk.put {A : List N3} {i : Int} {on : Bool} {S : Int → Option Int} (h : HeldOk A i on S) {f r : Int} (hf : Okn A f) (hj : HoldGood A A i on f r) : HeldOk A i on (fun q => if q = f then some r else S q) := fun p r' hs => by
  by_cases hp : p = f
  · subst hp
    simp only [if_true] at hs
    injection hs with hs
    subst hs
    exact ⟨hf, hj⟩
  · simp only [if_neg hp] at hs
    exact h p r' hs
theorem HeldOk.none (A : List N3) (i : Int) (on : Bool) : HeldOk A i on (fun _ => none) := fun p r h => by cases h
theorem hold_above {A : List N3} (h : Wf A) {i f : Int} {on : Bool} (hf : Okn A f) (hi : i < lev A f) : HoldGood A A i on f f :=
  ⟨hf, fun v => den_indep h f.toNat f (Nat.le_refl _) hf fun j hj => by unfold upd; rw [if_neg (by omega)], Int.le_refl _⟩
theorem node_of {A : List N3} (h : Wf A) {f : Int} (hf : Okn A f) (hl : lev A f < 104) : 2 ≤ f ∧ 0 ≤ (nd A f).1 ∧ Okn A (nd A f).2.1 ∧ Okn A (nd A f).2.2 ∧ (nd A f).2.1 < f ∧ (nd A f).2.2 < f ∧ (nd A f).1 < lev A (nd A f).2.1 ∧ (nd A f).1 < lev A (nd A f).2.2 := by
  have h2 : 2 ≤ f := by
    have := (lev_le h hf).2.2
    unfold Okn at hf; omega
  have n := h.node f h2 hf.2
  exact ⟨h2, n.1, ⟨n.2.2.1, by unfold Okn at hf; omega⟩, ⟨n.2.2.2.2.1, by unfold Okn at hf; omega⟩, n.2.2.2.1, n.2.2.2.2.2.1, n.2.2.2.2.2.2.2.1, n.2.2.2.2.2.2.2.2⟩
theorem hold_at {A : List N3} (h : Wf A) {i f : Int} {on : Bool} (hf : Okn A f) (hi : lev A f = i) (h104 : i < 104) : HoldGood A A i on f (if on then (nd A f).2.2 else (nd A f).2.1) := by
  obtain ⟨h2, _, n1, n2, _, _, l1, l2⟩ := node_of h hf (by omega)
  subst hi
  have key : ∀ v, den A (upd v (lev A f) on) f = if on then den A v (nd A f).2.2 else den A v (nd A f).2.1 := fun v => by
    rw [den_step h _ h2 hf.2]
    have e : upd v (lev A f) on (nd A f).1 = on := by simp [upd]
    rw [e]
    cases on
    · simp only [Bool.false_eq_true, if_false]
      exact den_indep h _ _ (Nat.le_refl _) n1 fun j hj => by unfold upd; rw [if_neg (by simp only [lev] at *; omega)]
    · simp only [if_true]
      exact den_indep h _ _ (Nat.le_refl _) n2 fun j hj => by unfold upd; rw [if_neg (by simp only [lev] at *; omega)]
  cases on
  · exact ⟨n1, fun v => by rw [key v]; simp, by simp only [Bool.false_eq_true, if_false, lev] at *; omega⟩
  · exact ⟨n2, fun v => by rw [key v]; simp, by simp only [if_true, lev] at *; omega⟩
/-- both parts with the bit held, and what mk makes of them -/
theorem hold_fin {A A1 A2 : List N3} {most i f r1 r2 : Int} {on : Bool} (hA : Wf A) (hf : Okn A f) (hi : lev A f < i) (h104 : i < 104) (h1 : Wf A1) (p1 : A <+: A1) (j1 : HoldGood A A1 i on (nd A f).2.1 r1)
    (h2 : Wf A2) (p2 : A1 <+: A2) (m2 : (A2.length : Int) ≤ most) (j2 : HoldGood A1 A2 i on (nd A f).2.2 r2) :
    Res A2 (mkF A2 most (lev A f, r1, r2)).1 most (mkF A2 most (lev A f, r1, r2)).2.2 (HoldGood A (mkF A2 most (lev A f, r1, r2)).1 i on f (mkF A2 most (lev A f, r1, r2)).2.1) := by
  obtain ⟨hf2, l0, n1, n2, _, _, l1, l2⟩ := node_of hA hf (by omega)
  have j1' := j1.pre h1 h2 p2
  have j2' : HoldGood A A2 i on (nd A f).2.2 r2 := by
    refine ⟨j2.1, fun v => ?_, ?_⟩
    · rw [j2.2.1 v, den_pre p1 hA h1 _ _ n2]
    · have := j2.2.2
      rw [lev, nd_pre p1 n2] at this
      exact this
  have hm := mk_res (A := A2) (most := most) (x := (lev A f, r1, r2)) h2 m2 ⟨l0, by simp only []; omega⟩ j1'.1 j2'.1 (by have := j1'.2.2; simp only [lev] at *; omega) (by have := j2'.2.2; simp only [lev] at *; omega)
  refine ⟨hm.wf, hm.pre, hm.room, hm.ok.imp (fun ⟨he, h1', h2', h3'⟩ => ⟨he, h1', fun v => ?_, by simp only [] at h3'; omega⟩) id⟩
  rw [h2' v, den_step hA _ hf2 hf.2, j1'.2.1 v, j2'.2.1 v]
  have e : upd v i on (nd A f).1 = v (nd A f).1 := by unfold upd; rw [if_neg (by simp only [lev] at *; omega)]
  rw [e]
end Go.Proofs.Yticodddigaiipaa
