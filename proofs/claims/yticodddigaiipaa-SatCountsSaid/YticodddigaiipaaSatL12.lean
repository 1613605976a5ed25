/-
  How many headers a set has, and the least one: by its nodes, by all bits, by the bits that are asked.
-/
import Derived.Test.YticodddigaiipaaSatL9
import Derived.Test.YticodddigaiipaaSatL11
set_option linter.unusedVariables false
set_option linter.unusedSectionVars false
set_option linter.unusedSimpArgs false
namespace Go.Proofs.Yticodddigaiipaa
open Go.RowKit

abbrev Val := Int → Bool
theorem upd_same (v : Val) (i : Int) (b : Bool) : upd v i b i = b := by simp [upd]
theorem upd_ne (v : Val) {i j : Int} (b : Bool) (h : j ≠ i) : upd v i b j = v j := by simp [upd, h]
theorem upd_id {v : Val} {i : Int} {b : Bool} (h : v i = b) : upd v i b = v := by funext j; unfold upd; split <;> simp_all

/-! ### By nodes -/
def cntG (A : List N3) : Nat → Int → Nat
  | 0, _ => 0
  | n + 1, i => if i = 0 then 0 else if i = 1 then 1 else cntG A n (nd A i).2.1 * 2 ^ (lev A (nd A i).2.1 - (nd A i).1 - 1).toNat + cntG A n (nd A i).2.2 * 2 ^ (lev A (nd A i).2.2 - (nd A i).1 - 1).toNat
def cntN (A : List N3) (i : Int) : Nat := cntG A (i.toNat + 1) i
section
variable {A : List N3} (h : Wf A)
include h
theorem cntG_more : ∀ (m n : Nat) (i : Int), i.toNat ≤ m → Okn A i → i.toNat < n → cntG A n i = cntN A i := by
  intro m
  induction m with
  | zero =>
    intro n i hm hi hn
    obtain ⟨n, rfl⟩ : ∃ q, n = q + 1 := ⟨n - 1, by omega⟩
    have : i = 0 := by unfold Okn at hi; omega
    subst this; rfl
  | succ m ih =>
    intro n i hm hi hn
    obtain ⟨n, rfl⟩ : ∃ q, n = q + 1 := ⟨n - 1, by omega⟩
    unfold Okn at hi
    simp only [cntN, cntG]
    by_cases h0 : i = 0
    · simp [h0]
    · by_cases h1 : i = 1
      · simp [h1]
      · have q := h.node i (by omega) hi.2
        have ol : Okn A (nd A i).2.1 := ⟨q.2.2.1, by omega⟩
        have oh : Okn A (nd A i).2.2 := ⟨q.2.2.2.2.1, by omega⟩
        rw [if_neg h0, if_neg h1, if_neg h0, if_neg h1, ih n _ (by omega) ol (by omega), ih n _ (by omega) oh (by omega), ih i.toNat _ (by omega) ol (by omega), ih i.toNat _ (by omega) oh (by omega)]
theorem cnt_step {i : Int} (h2 : 2 ≤ i) (hi : i < A.length) : cntN A i = cntN A (nd A i).2.1 * 2 ^ (lev A (nd A i).2.1 - (nd A i).1 - 1).toNat + cntN A (nd A i).2.2 * 2 ^ (lev A (nd A i).2.2 - (nd A i).1 - 1).toNat := by
  have q := h.node i h2 hi
  have ol : Okn A (nd A i).2.1 := ⟨q.2.2.1, by omega⟩
  have oh : Okn A (nd A i).2.2 := ⟨q.2.2.2.2.1, by omega⟩
  conv => lhs; unfold cntN cntG
  rw [if_neg (by omega), if_neg (by omega), cntG_more h _ i.toNat _ (Nat.le_refl _) ol (by omega), cntG_more h _ i.toNat _ (Nat.le_refl _) oh (by omega)]
end
theorem cnt_zero (A : List N3) : cntN A 0 = 0 := rfl
theorem cnt_one (A : List N3) : cntN A 1 = 1 := rfl

/-! ### By all bits from one on -/
def Sc (D : Val → Bool) : Nat → Val → Nat
  | 0, v => if D v then 1 else 0
  | n + 1, v => Sc D n (upd v (103 - (n : Int)) false) + Sc D n (upd v (103 - (n : Int)) true)
theorem Sc_congr {D E : Val → Bool} : ∀ (n : Nat) (v : Val), (∀ u, (∀ j, j < 104 - (n : Int) → u j = v j) → D u = E u) → Sc D n v = Sc E n v
  | 0, v, h => by rw [Sc, Sc, h v fun _ _ => rfl]
  | n + 1, v, h => by
    rw [Sc, Sc, Sc_congr n _ fun u hu => h u fun j hj => ?_, Sc_congr n _ fun u hu => h u fun j hj => ?_]
    · rw [hu j (by omega), upd_ne _ _ (by omega)]
    · rw [hu j (by omega), upd_ne _ _ (by omega)]
/-- D asks bits of P alone -/
def Dep (D : Val → Bool) (P : Int → Prop) : Prop := ∀ u v : Val, (∀ j, P j → u j = v j) → D u = D v
theorem Sc_agree {D : Val → Bool} {P : Int → Prop} (hD : Dep D P) : ∀ (n : Nat) (u v : Val), (∀ j, P j → j < 104 - (n : Int) → u j = v j) → (∀ j, P j → j < 104) → Sc D n u = Sc D n v
  | 0, u, v, h, hP => by rw [Sc, Sc, hD u v fun j hj => h j hj (by have := hP j hj; omega)]
  | n + 1, u, v, h, hP => by
    have key : ∀ b, Sc D n (upd u (103 - (n : Int)) b) = Sc D n (upd v (103 - (n : Int)) b) := fun b => Sc_agree hD n _ _ (fun j hj hl => by
      by_cases hj' : j = 103 - (n : Int)
      · subst hj'; rw [upd_same, upd_same]
      · rw [upd_ne _ _ hj', upd_ne _ _ hj']; exact h j hj (by omega)) hP
    rw [Sc, Sc, key, key]
theorem Sc_den {A : List N3} (h : Wf A) : ∀ (n : Nat), n ≤ 104 → ∀ (f : Int) (v : Val), Okn A f → 104 - (n : Int) ≤ lev A f → Sc (fun u => den A u f) n v = cntN A f * 2 ^ (lev A f - (104 - (n : Int))).toNat
  | 0, _, f, v, hf, hl => by
    have hq := lev_le h hf
    have h2 : f < 2 := hq.2.2.1 (by omega)
    have : f = 0 ∨ f = 1 := by unfold Okn at hf; omega
    rcases this with rfl | rfl
    · simp [Sc, den_zero, cnt_zero]
    · have : (lev A 1 - (104 - ((0 : Nat) : Int))).toNat = 0 := by omega
      rw [this]; simp [Sc, den_one, cnt_one]
  | n + 1, hn, f, v, hf, hl => by
    have hq := lev_le h hf
    rw [Sc]
    by_cases hx : lev A f = 103 - (n : Int)
    · obtain ⟨h2, _, n1, n2, _, _, l1, l2⟩ := node_of h hf (by omega)
      have e : ∀ b, Sc (fun u => den A u f) n (upd v (103 - (n : Int)) b) = Sc (fun u => den A u (if b then (nd A f).2.2 else (nd A f).2.1)) n (upd v (103 - (n : Int)) b) := fun b => Sc_congr n _ fun u hu => by
        have hb : u (nd A f).1 = b := by rw [show (nd A f).1 = 103 - (n : Int) from hx, hu _ (by omega), upd_same]
        show den A u f = _
        rw [den_step h u h2 hf.2, hb]
        cases b <;> simp
      rw [e false, e true]
      simp only [Bool.false_eq_true, if_false, if_true]
      rw [Sc_den h n (by omega) _ _ n1 (by simp only [lev] at *; omega), Sc_den h n (by omega) _ _ n2 (by simp only [lev] at *; omega), cnt_step h h2 hf.2]
      have e1 : (lev A f - (104 - ((n + 1 : Nat) : Int))).toNat = 0 := by omega
      rw [e1, Nat.pow_zero, Nat.mul_one]
      have e2 : (nd A f).1 = 103 - (n : Int) := hx
      rw [e2, show lev A (nd A f).2.1 - (103 - (n : Int)) - 1 = lev A (nd A f).2.1 - (104 - (n : Int)) by omega, show lev A (nd A f).2.2 - (103 - (n : Int)) - 1 = lev A (nd A f).2.2 - (104 - (n : Int)) by omega]
    · have ih := fun u => Sc_den h n (by omega) f u hf (by omega)
      rw [ih, ih, show (lev A f - (104 - ((n + 1 : Nat) : Int))).toNat = (lev A f - (104 - (n : Int))).toNat + 1 by omega, Nat.pow_succ, ← Nat.mul_assoc]
      omega
theorem cntN_le {A : List N3} (h : Wf A) {f : Int} (hf : Okn A f) : cntN A f ≤ 2 ^ (104 - lev A f).toNat := by
  have key : ∀ (D : Val → Bool) (n : Nat) (v : Val), Sc D n v ≤ 2 ^ n := by
    intro D n
    induction n with
    | zero => intro v; rw [Sc]; split <;> simp
    | succ n ih =>
      intro v
      have := ih (upd v (103 - (n : Int)) false)
      have := ih (upd v (103 - (n : Int)) true)
      rw [Sc, Nat.pow_succ]; omega
  have hq := lev_le h hf
  have := Sc_den h (104 - lev A f).toNat (by omega) f (fun _ => false) hf (by omega)
  rw [show (lev A f - (104 - ((104 - lev A f).toNat : Int))).toNat = 0 by omega, Nat.pow_zero, Nat.mul_one] at this
  rw [← this]; exact key _ _ _
theorem cnt_pos {A : List N3} (h : Wf A) : ∀ (m : Nat) (f : Int), f.toNat ≤ m → Okn A f → f ≠ 0 → 0 < cntN A f := by
  intro m
  induction m with
  | zero => intro f hm hf h0; unfold Okn at hf; omega
  | succ m ih =>
    intro f hm hf h0
    by_cases h1 : f = 1
    · subst h1; rw [cnt_one]; omega
    · unfold Okn at hf
      have q := h.node f (by omega) hf.2
      rw [cnt_step h (by omega) hf.2]
      by_cases hl : (nd A f).2.1 = 0
      · have := ih (nd A f).2.2 (by omega) ⟨q.2.2.2.2.1, by omega⟩ (fun e => q.2.2.2.2.2.2.1 (hl.trans e.symm))
        exact Nat.lt_of_lt_of_le (Nat.mul_pos this (Nat.pow_pos (by omega))) (Nat.le_add_left _ _)
      · have := ih (nd A f).2.1 (by omega) ⟨q.2.2.1, by omega⟩ hl
        exact Nat.lt_of_lt_of_le (Nat.mul_pos this (Nat.pow_pos (by omega))) (Nat.le_add_right _ _)

/-! ### By the bits that are asked -/
def Ec (D : Val → Bool) : List Int → Val → Nat
  | [], v => if D v then 1 else 0
  | x :: V, v => Ec D V (upd v x false) + Ec D V (upd v x true)
def LE_ (D : Val → Bool) : List Int → Val → Option Val
  | [], v => if D v then some v else none
  | x :: V, v => (LE_ D V (upd v x false)).or (LE_ D V (upd v x true))
def LS (D : Val → Bool) : Nat → Val → Option Val
  | 0, v => if D v then some v else none
  | n + 1, v => (LS D n (upd v (103 - (n : Int)) false)).or (LS D n (upd v (103 - (n : Int)) true))
theorem Sc_ec {D : Val → Bool} : ∀ (n : Nat), n ≤ 104 → ∀ (V : List Int) (v : Val), V.Pairwise (· < ·) → (∀ x ∈ V, 104 - (n : Int) ≤ x ∧ x < 104) → Dep D (fun j => j < 104 - (n : Int) ∨ j ∈ V) → V.length ≤ n ∧ Sc D n v = 2 ^ (n - V.length) * Ec D V v
  | 0, _, [], v, _, _, _ => by simp [Sc, Ec]
  | 0, _, x :: V, v, _, hx, _ => by have := hx x (by simp); omega
  | n + 1, hn, V, v, hs, hx, hD => by
    rw [Sc]
    by_cases hm : ∃ V', V = (103 - (n : Int)) :: V'
    · obtain ⟨V', rfl⟩ := hm
      have hs' := (List.pairwise_cons.1 hs)
      have hx' : ∀ y ∈ V', 104 - (n : Int) ≤ y ∧ y < 104 := fun y hy => by have := hs'.1 y hy; have := hx y (by simp [hy]); omega
      have hD' : Dep D (fun j => j < 104 - (n : Int) ∨ j ∈ V') := fun u w huw => hD u w fun j hj => huw j (by
        rcases hj with hj | hj
        · left; omega
        · rcases List.mem_cons.1 hj with rfl | hj
          · left; omega
          · exact .inr hj)
      have i1 := Sc_ec n (by omega) V' (upd v (103 - (n : Int)) false) hs'.2 hx' hD'
      have i2 := Sc_ec n (by omega) V' (upd v (103 - (n : Int)) true) hs'.2 hx' hD'
      rw [i1.2, i2.2, Ec]
      refine ⟨by simp; omega, ?_⟩
      rw [show n + 1 - ((103 - (n : Int)) :: V').length = n - V'.length by simp, Nat.mul_add]
    · have hV : ∀ y ∈ V, 104 - (n : Int) ≤ y ∧ y < 104 := by
        intro y hy
        have h1 := hx y hy
        have : y ≠ 103 - (n : Int) := by
          rintro rfl
          apply hm
          cases V with
          | nil => cases hy
          | cons z V' =>
            rcases List.mem_cons.1 hy with rfl | hy
            · exact ⟨V', rfl⟩
            · have := (List.pairwise_cons.1 hs).1 _ hy
              have := hx z (by simp)
              omega
        omega
      have hD' : Dep D (fun j => j < 104 - (n : Int) ∨ j ∈ V) := fun u w huw => hD u w fun j hj => huw j (hj.imp (fun q => by omega) id)
      have ag : ∀ b, Sc D n (upd v (103 - (n : Int)) b) = Sc D n v := fun b => Sc_agree (P := fun j => j < 104 - ((n + 1 : Nat) : Int) ∨ j ∈ V) hD n _ _ (fun j hj hl => upd_ne _ _ (by
        rcases hj with hj | hj
        · omega
        · have := hV j hj; omega)) (fun j hj => by
        rcases hj with hj | hj
        · omega
        · exact (hx j hj).2)
      have i := Sc_ec n (by omega) V v hs hV hD'
      rw [ag, ag, i.2]
      refine ⟨by omega, ?_⟩
      rw [show n + 1 - V.length = (n - V.length) + 1 by omega, Nat.pow_succ, Nat.mul_assoc, Nat.mul_comm 2, ← Nat.mul_assoc, Nat.mul_two]
theorem LS_congr {D E : Val → Bool} : ∀ (n : Nat) (v : Val), (∀ u, (∀ j, j < 104 - (n : Int) → u j = v j) → D u = E u) → LS D n v = LS E n v
  | 0, v, h => by rw [LS, LS, h v fun _ _ => rfl]
  | n + 1, v, h => by
    rw [LS, LS, LS_congr n _ fun u hu => h u fun j hj => ?_, LS_congr n _ fun u hu => h u fun j hj => ?_]
    · rw [hu j (by omega), upd_ne _ _ (by omega)]
    · rw [hu j (by omega), upd_ne _ _ (by omega)]
theorem LS_agree {D : Val → Bool} {P : Int → Prop} (hD : Dep D P) : ∀ (n : Nat) (u v : Val), (∀ j, P j → j < 104 - (n : Int) → u j = v j) → (∀ j, P j → j < 104) → (LS D n u).isSome = (LS D n v).isSome
  | 0, u, v, h, hP => by rw [LS, LS, hD u v fun j hj => h j hj (by have := hP j hj; omega)]; split <;> rfl
  | n + 1, u, v, h, hP => by
    have key : ∀ b, (LS D n (upd u (103 - (n : Int)) b)).isSome = (LS D n (upd v (103 - (n : Int)) b)).isSome := fun b => LS_agree hD n _ _ (fun j hj hl => by
      by_cases hj' : j = 103 - (n : Int)
      · subst hj'; rw [upd_same, upd_same]
      · rw [upd_ne _ _ hj', upd_ne _ _ hj']; exact h j hj (by omega)) hP
    rw [LS, LS, Option.isSome_or, Option.isSome_or, key, key]
theorem LS_le {D : Val → Bool} : ∀ (n : Nat), n ≤ 104 → ∀ (V : List Int) (v : Val), V.Pairwise (· < ·) → (∀ x ∈ V, 104 - (n : Int) ≤ x ∧ x < 104) → Dep D (fun j => j < 104 - (n : Int) ∨ j ∈ V) → (∀ j, 104 - (n : Int) ≤ j → j < 104 → j ∉ V → v j = false) → LS D n v = LE_ D V v
  | 0, _, [], v, _, _, _, _ => by simp [LS, LE_]
  | 0, _, x :: V, v, _, hx, _, _ => by have := hx x (by simp); omega
  | n + 1, hn, V, v, hs, hx, hD, hv => by
    rw [LS]
    by_cases hm : ∃ V', V = (103 - (n : Int)) :: V'
    · obtain ⟨V', rfl⟩ := hm
      have hs' := (List.pairwise_cons.1 hs)
      have hx' : ∀ y ∈ V', 104 - (n : Int) ≤ y ∧ y < 104 := fun y hy => by have := hs'.1 y hy; have := hx y (by simp [hy]); omega
      have hD' : Dep D (fun j => j < 104 - (n : Int) ∨ j ∈ V') := fun u w huw => hD u w fun j hj => huw j (by
        rcases hj with hj | hj
        · left; omega
        · rcases List.mem_cons.1 hj with rfl | hj
          · left; omega
          · exact .inr hj)
      have hv' : ∀ b j, 104 - (n : Int) ≤ j → j < 104 → j ∉ V' → upd v (103 - (n : Int)) b j = false := fun b j h1 h2 h3 => by
        rw [upd_ne _ _ (by omega)]; exact hv j (by omega) h2 (by simp [h3]; omega)
      rw [LS_le n (by omega) V' _ hs'.2 hx' hD' (hv' false), LS_le n (by omega) V' _ hs'.2 hx' hD' (hv' true), LE_]
    · have hnm : (103 - (n : Int)) ∉ V := by
        intro hy
        apply hm
        cases V with
        | nil => cases hy
        | cons z V' =>
          rcases List.mem_cons.1 hy with e | hy
          · exact ⟨V', by rw [e]⟩
          · have := (List.pairwise_cons.1 hs).1 _ hy
            have := hx z (by simp)
            omega
      have hV : ∀ y ∈ V, 104 - (n : Int) ≤ y ∧ y < 104 := by
        intro y hy
        have h1 := hx y hy
        have : y ≠ 103 - (n : Int) := fun e => hnm (e ▸ hy)
        omega
      have hD' : Dep D (fun j => j < 104 - (n : Int) ∨ j ∈ V) := fun u w huw => hD u w fun j hj => huw j (hj.imp (fun q => by omega) id)
      have hv0 : v (103 - (n : Int)) = false := hv _ (by omega) (by omega) hnm
      have i := LS_le n (by omega) V v hs hV hD' (fun j h1 h2 h3 => hv j (by omega) h2 h3)
      rw [upd_id hv0, ← i]
      have ag := LS_agree (P := fun j => j < 104 - ((n + 1 : Nat) : Int) ∨ j ∈ V) hD n (upd v (103 - (n : Int)) true) v (fun j hj hl => upd_ne _ _ (by
        rcases hj with hj | hj
        · omega
        · have := hV j hj; omega)) (fun j hj => by
        rcases hj with hj | hj
        · omega
        · exact (hx j hj).2)
      cases hq : LS D n v with
      | some r => rfl
      | none =>
        rw [hq] at ag
        cases hp : LS D n (upd v (103 - (n : Int)) true) with
        | none => rfl
        | some r => rw [hp] at ag; cases ag
theorem LS_some {A : List N3} (h : Wf A) : ∀ (n : Nat), n ≤ 104 → ∀ (f : Int) (v : Val), Okn A f → 104 - (n : Int) ≤ lev A f → f ≠ 0 → (LS (fun u => den A u f) n v).isSome = true
  | 0, _, f, v, hf, hl, h0 => by
    have h2 : f < 2 := (lev_le h hf).2.2.1 (by have := (lev_le h hf).2.1; omega)
    have : f = 1 := by unfold Okn at hf; omega
    subst this; simp [LS, den_one]
  | n + 1, hn, f, v, hf, hl, h0 => by
    rw [LS, Option.isSome_or]
    by_cases hx : lev A f = 103 - (n : Int)
    · obtain ⟨h2, _, n1, n2, _, _, l1, l2⟩ := node_of h hf (by omega)
      have e : ∀ b, LS (fun u => den A u f) n (upd v (103 - (n : Int)) b) = LS (fun u => den A u (if b then (nd A f).2.2 else (nd A f).2.1)) n (upd v (103 - (n : Int)) b) := fun b => LS_congr n _ fun u hu => by
        have hb : u (nd A f).1 = b := by rw [show (nd A f).1 = 103 - (n : Int) from hx, hu _ (by omega), upd_same]
        show den A u f = _
        rw [den_step h u h2 hf.2, hb]
        cases b <;> simp
      rw [e false, e true]
      simp only [Bool.false_eq_true, if_false, if_true]
      by_cases hl0 : (nd A f).2.1 = 0
      · have hh : (nd A f).2.2 ≠ 0 := fun e => (h.node f h2 hf.2).2.2.2.2.2.2.1 (hl0.trans e.symm)
        rw [LS_some h n (by omega) _ _ n2 (by simp only [lev] at *; omega) hh]; simp
      · rw [LS_some h n (by omega) _ _ n1 (by simp only [lev] at *; omega) hl0]; simp
    · rw [LS_some h n (by omega) f _ hf (by omega) h0]; simp
/-- one step down -/
theorem LS_down {A : List N3} (h : Wf A) {n : Nat} (hn : n < 104) {f : Int} {v : Val} (hf : Okn A f) (hl : 103 - (n : Int) ≤ lev A f) (h0 : f ≠ 0) :
    LS (fun u => den A u f) (n + 1) v = if lev A f = 103 - (n : Int) then (if (nd A f).2.1 = 0 then LS (fun u => den A u (nd A f).2.2) n (upd v (103 - (n : Int)) true) else LS (fun u => den A u (nd A f).2.1) n (upd v (103 - (n : Int)) false)) else LS (fun u => den A u f) n (upd v (103 - (n : Int)) false) := by
  rw [LS]
  split
  · rename_i hx
    obtain ⟨h2, _, n1, n2, _, _, l1, l2⟩ := node_of h hf (by omega)
    have e : ∀ b, LS (fun u => den A u f) n (upd v (103 - (n : Int)) b) = LS (fun u => den A u (if b then (nd A f).2.2 else (nd A f).2.1)) n (upd v (103 - (n : Int)) b) := fun b => LS_congr n _ fun u hu => by
      have hb : u (nd A f).1 = b := by rw [show (nd A f).1 = 103 - (n : Int) from hx, hu _ (by omega), upd_same]
      show den A u f = _
      rw [den_step h u h2 hf.2, hb]
      cases b <;> simp
    rw [e false, e true]
    simp only [Bool.false_eq_true, if_false, if_true]
    split
    · rename_i hl0
      rw [hl0]
      have : ∀ (m : Nat) (u : Val), LS (fun u => den A u 0) m u = none := by
        intro m
        induction m with
        | zero => intro u; simp [LS, den_zero]
        | succ m ih => intro u; rw [LS, ih, ih]; rfl
      rw [this]; rfl
    · rename_i hl0
      have := LS_some h n (by omega) _ (upd v (103 - (n : Int)) false) n1 (by simp only [lev] at *; omega) hl0
      cases hq : LS (fun u => den A u (nd A f).2.1) n (upd v (103 - (n : Int)) false) with
      | none => rw [hq] at this; cases this
      | some r => rfl
  · rename_i hx
    have := LS_some h n (by omega) f (upd v (103 - (n : Int)) false) hf (by omega) h0
    cases hq : LS (fun u => den A u f) n (upd v (103 - (n : Int)) false) with
    | none => rw [hq] at this; cases this
    | some r => rfl
end Go.Proofs.Yticodddigaiipaa
