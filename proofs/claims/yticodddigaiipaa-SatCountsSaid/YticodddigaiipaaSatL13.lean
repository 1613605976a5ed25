/-
  All ways to hold the bits that are asked, one by one; what expressions ask.
-/
import Derived.Test.YticodddigaiipaaSatL12
set_option linter.unusedVariables false
set_option linter.unusedSectionVars false
set_option linter.unusedSimpArgs false
namespace Go.Proofs.Yticodddigaiipaa
open Go.RowKit

def apF : List Int → Nat → Val → Val
  | [], _, v => v
  | x :: V, w, v => apF V (w % 2 ^ V.length) (upd v x (decide (w / 2 ^ V.length % 2 = 1)))
theorem apF_lo {x : Int} {V : List Int} {w : Nat} {v : Val} (h : w < 2 ^ V.length) : apF (x :: V) w v = apF V w (upd v x false) := by
  rw [apF, Nat.mod_eq_of_lt h, Nat.div_eq_of_lt h]; rfl
theorem apF_hi {x : Int} {V : List Int} {w : Nat} {v : Val} (h : w < 2 ^ V.length) : apF (x :: V) (2 ^ V.length + w) v = apF V w (upd v x true) := by
  have hp : 0 < 2 ^ V.length := Nat.pow_pos (by omega)
  rw [apF, Nat.add_mod_left, Nat.mod_eq_of_lt h, Nat.add_div_left _ hp, Nat.div_eq_of_lt h]; rfl
theorem ec_count (D : Val → Bool) : ∀ (V : List Int) (v : Val), Ec D V v = (List.range (2 ^ V.length)).countP fun w => D (apF V w v)
  | [], v => by simp [Ec, apF, List.range_succ]
  | x :: V, v => by
    rw [Ec, ec_count D V, ec_count D V, List.length_cons, Nat.pow_succ, Nat.mul_two, List.range_add, List.countP_append, List.countP_map]
    congr 1
    · refine List.countP_congr fun w hw => ?_
      rw [apF_lo (List.mem_range.1 hw)]
    · refine List.countP_congr fun w hw => ?_
      simp only [Function.comp]
      rw [apF_hi (List.mem_range.1 hw)]
theorem find_congr {α : Type} {p q : α → Bool} : ∀ {l : List α}, (∀ x ∈ l, p x = q x) → l.find? p = l.find? q
  | [], _ => rfl
  | x :: l, h => by
    rw [List.find?_cons, List.find?_cons, h x (by simp), find_congr fun y hy => h y (by simp [hy])]
theorem le_find (D : Val → Bool) : ∀ (V : List Int) (v : Val), LE_ D V v = ((List.range (2 ^ V.length)).find? fun w => D (apF V w v)).map fun w => apF V w v
  | [], v => by
    simp only [LE_, List.length_nil, Nat.pow_zero, List.range_succ, List.range_zero, List.nil_append, List.find?_cons, List.find?_nil, apF]
    split <;> simp_all
  | x :: V, v => by
    rw [LE_, le_find D V, le_find D V, List.length_cons, Nat.pow_succ, Nat.mul_two, List.range_add, List.find?_append, List.find?_map]
    have e1 : (List.range (2 ^ V.length)).find? (fun w => D (apF (x :: V) w v)) = (List.range (2 ^ V.length)).find? (fun w => D (apF V w (upd v x false))) := find_congr fun w hw => by rw [apF_lo (List.mem_range.1 hw)]
    have e2 : (List.range (2 ^ V.length)).find? ((fun w => D (apF (x :: V) w v)) ∘ fun y => 2 ^ V.length + y) = (List.range (2 ^ V.length)).find? (fun w => D (apF V w (upd v x true))) := find_congr fun w hw => by simp only [Function.comp]; rw [apF_hi (List.mem_range.1 hw)]
    rw [e1, e2]
    cases h1 : (List.range (2 ^ V.length)).find? (fun w => D (apF V w (upd v x false))) with
    | some w =>
      have hw := List.mem_range.1 (List.mem_of_find?_eq_some h1)
      simp [apF_lo hw]
    | none =>
      cases h2 : (List.range (2 ^ V.length)).find? (fun w => D (apF V w (upd v x true))) with
      | none => rfl
      | some w =>
        have hw := List.mem_range.1 (List.mem_of_find?_eq_some h2)
        simp [apF_hi hw]

/-- the way number w, as it is made -/
def apN (V : List Int) (w : Nat) : Nat → Val
  | 0 => fun _ => false
  | n + 1 => upd (apN V w n) (at_ V 0 (n : Int)) (bitW (w : Int) V.length n)
theorem apF_at : ∀ (V : List Int) (w : Nat) (v : Val), V.Nodup → (∀ i : Nat, i < V.length → apF V w v (at_ V 0 (i : Int)) = bitW (w : Int) V.length i) ∧ ∀ j, j ∉ V → apF V w v j = v j
  | [], w, v, _ => ⟨fun i hi => by simp at hi, fun _ _ => rfl⟩
  | x :: V, w, v, hn => by
    obtain ⟨hx, hn'⟩ := List.nodup_cons.1 hn
    obtain ⟨h1, h2⟩ := apF_at V (w % 2 ^ V.length) (upd v x (decide (w / 2 ^ V.length % 2 = 1))) hn'
    refine ⟨fun i hi => ?_, fun j hj => ?_⟩
    · rw [apF]
      cases i with
      | zero =>
        have e : at_ (x :: V) 0 ((0 : Nat) : Int) = x := rfl
        rw [e, h2 x hx, upd_same]
        unfold bitW
        simp only [List.length_cons, Nat.add_sub_cancel, Nat.sub_zero]
        rw [show (w : Int) / 2 ^ V.length % 2 = ((w / 2 ^ V.length % 2 : Nat) : Int) by simp]
        exact decide_eq_decide.2 (by omega)
      | succ i =>
        have e : at_ (x :: V) 0 ((i + 1 : Nat) : Int) = at_ V 0 (i : Int) := by simp [at_]
        simp only [List.length_cons] at hi ⊢
        rw [e, h1 i (by omega), bitW_nat, bitW_nat, Nat.testBit_mod_two_pow]
        have : V.length - 1 - i < V.length := by omega
        rw [show V.length + 1 - 1 - (i + 1) = V.length - 1 - i by omega]
        simp [this]
    · simp only [List.mem_cons, not_or] at hj
      rw [apF, h2 j hj.2, upd_ne _ _ hj.1]
theorem nodup_at {V : List Int} (h : V.Nodup) {i j : Nat} (hi : i < V.length) (hj : j < V.length) (he : at_ V 0 (i : Int) = at_ V 0 (j : Int)) : i = j := by
  have e1 : at_ V 0 (i : Int) = V[i] := by simp [at_, hi]
  have e2 : at_ V 0 (j : Int) = V[j] := by simp [at_, hj]
  rw [e1, e2] at he
  exact (List.getElem_inj (h₀ := hi) (h₁ := hj) h).1 he
theorem apN_at {V : List Int} (w : Nat) (h : V.Nodup) : ∀ n, n ≤ V.length → (∀ i : Nat, i < n → apN V w n (at_ V 0 (i : Int)) = bitW (w : Int) V.length i) ∧ ∀ j, (∀ i : Nat, i < n → at_ V 0 (i : Int) ≠ j) → apN V w n j = false
  | 0, _ => ⟨fun i hi => by omega, fun _ _ => rfl⟩
  | n + 1, hn => by
    obtain ⟨h1, h2⟩ := apN_at w h n (by omega)
    refine ⟨fun i hi => ?_, fun j hj => ?_⟩
    · rw [apN]
      by_cases e : i = n
      · subst e; rw [upd_same]
      · rw [upd_ne _ _ (fun q => e (nodup_at h (by omega) (by omega) q))]
        exact h1 i (by omega)
    · rw [apN, upd_ne _ _ (fun q => hj n (by omega) q.symm)]
      exact h2 j fun i hi => hj i (by omega)
theorem apN_eq {V : List Int} (w : Nat) (h : V.Nodup) : apN V w V.length = apF V w (fun _ => false) := by
  obtain ⟨h1, h2⟩ := apN_at w h V.length (Nat.le_refl _)
  obtain ⟨g1, g2⟩ := apF_at V w (fun _ => false) h
  funext j
  by_cases hj : j ∈ V
  · obtain ⟨i, hi, rfl⟩ := List.getElem_of_mem hj
    have e : V[i] = at_ V 0 (i : Int) := by simp [at_, hi]
    rw [e, h1 i hi, g1 i hi]
  · rw [h2 j fun i hi e => hj (by rw [← e]; exact at_mem (by omega) (by omega)), g2 j hj]

/-! ### What expressions ask -/
theorem vars_mem {L : List Ex} {j : Int} : ∀ {n : Nat}, j ∈ varsL L n → 0 ≤ j ∧ j < n ∧ askd L j = true
  | 0, h => by cases h
  | n + 1, h => by
    simp only [varsL, List.mem_append] at h
    rcases h with h | h
    · have := vars_mem h; exact ⟨this.1, by omega, this.2.2⟩
    · split at h
      · rename_i ha
        rw [List.mem_singleton.1 h]; exact ⟨by omega, by omega, ha⟩
      · cases h
theorem vars_up (L : List Ex) : ∀ n, (varsL L n).Pairwise (· < ·)
  | 0 => List.Pairwise.nil
  | n + 1 => by
    simp only [varsL]
    rw [List.pairwise_append]
    refine ⟨vars_up L n, by split <;> simp, fun a ha b hb => ?_⟩
    have := (vars_mem ha).2.1
    split at hb
    · rw [List.mem_singleton.1 hb]; exact this
    · cases hb
theorem vars_nodup (L : List Ex) (n : Nat) : (varsL L n).Nodup := (vars_up L n).imp fun h => Int.ne_of_lt h
theorem sem_dep {L : List Ex} (h : RightL L) : ∀ (m : Nat) (i : Int), i.toNat ≤ m → 0 ≤ i → i < L.length → Dep (sem L i) (fun j => j ∈ varsL L 104) := by
  intro m
  induction m with
  | zero =>
    intro i hm h0 h1 u v huv
    have hx := h i h0 h1
    have hk : (at_ L e0 i).k < 3 := by
      by_cases q : 3 ≤ (at_ L e0 i).k
      · have := (hx.abc q).1; omega
      · omega
    by_cases k1 : (at_ L e0 i).k = 1
    · rw [sem_k1 h h0 h1 _ k1, sem_k1 h h0 h1 _ k1]
    · by_cases k2 : (at_ L e0 i).k = 2
      · rw [sem_k2 h h0 h1 _ k2, sem_k2 h h0 h1 _ k2, huv _ (mem_vars 104 hx.v.1 hx.v.2 (askd_hit h0 h1 k2 rfl))]
      · have := hx.k
        rw [sem_k0 h h0 h1 _ (by omega), sem_k0 h h0 h1 _ (by omega)]
  | succ m ih =>
    intro i hm h0 h1 u v huv
    have hx := h i h0 h1
    have hk := hx.k
    by_cases h3 : 3 ≤ (at_ L e0 i).k
    · obtain ⟨ha, hb, hc⟩ := hx.abc h3
      have da := ih (at_ L e0 i).a (by omega) ha.1 (by omega)
      have db := ih (at_ L e0 i).b (by omega) hb.1 (by omega)
      have dc := ih (at_ L e0 i).c (by omega) hc.1 (by omega)
      by_cases h6 : (at_ L e0 i).k ≤ 6
      · rw [sem_kj h h0 h1 _ h3 h6, sem_kj h h0 h1 _ h3 h6, da u v huv, db u v huv]
      · by_cases k7 : (at_ L e0 i).k = 7
        · rw [sem_k7 h h0 h1 _ k7, sem_k7 h h0 h1 _ k7, da u v huv]
        · by_cases k8 : (at_ L e0 i).k = 8
          · rw [sem_k8 h h0 h1 _ k8, sem_k8 h h0 h1 _ k8]
            exact da _ _ fun j hj => by
              unfold upd
              split
              · rfl
              · exact huv j hj
          · have k9 : (at_ L e0 i).k = 9 := by omega
            rw [sem_k9 h h0 h1 _ k9, sem_k9 h h0 h1 _ k9, da u v huv, db u v huv, dc u v huv]
    · by_cases k1 : (at_ L e0 i).k = 1
      · rw [sem_k1 h h0 h1 _ k1, sem_k1 h h0 h1 _ k1]
      · by_cases k2 : (at_ L e0 i).k = 2
        · rw [sem_k2 h h0 h1 _ k2, sem_k2 h h0 h1 _ k2, huv _ (mem_vars 104 hx.v.1 hx.v.2 (askd_hit h0 h1 k2 rfl))]
        · rw [sem_k0 h h0 h1 _ (by omega), sem_k0 h h0 h1 _ (by omega)]

/-- how many of the first w ways set i has -/
def cntW (L : List Ex) (i : Int) (w : Nat) : Nat := (List.range w).countP fun q => sem L i (apN (varsL L 104) q (varsL L 104).length)
def fstW (L : List Ex) (i : Int) (w : Nat) : Option Nat := (List.range w).find? fun q => sem L i (apN (varsL L 104) q (varsL L 104).length)
section
variable {L : List Ex} (h : RightL L) {i : Int} (h0 : 0 ≤ i) (h1 : i < L.length) {A : List N3} (hW : Wf A) {f : Int} (hf : Okn A f) (hd : ∀ v, den A v f = sem L i v)
include h h0 h1 hW hf hd
theorem counts_eq : cntN A f * 2 ^ (lev A f).toNat = cntW L i (2 ^ (varsL L 104).length) * 2 ^ (104 - (varsL L 104).length) ∧ (varsL L 104).length ≤ 104 := by
  have up := vars_up L 104
  have nod := vars_nodup L 104
  have mem : ∀ x ∈ varsL L 104, 0 ≤ x ∧ x < 104 := fun x hx => ⟨(vars_mem hx).1, (vars_mem hx).2.1⟩
  have dep := sem_dep h i.toNat i (Nat.le_refl _) h0 h1
  unfold cntW
  generalize varsL L 104 = V at *
  have e1 := Sc_den hW 104 (Nat.le_refl _) f (fun _ => false) hf (by have := (lev_le hW hf).1; omega)
  have e2 := Sc_ec (D := sem L i) 104 (Nat.le_refl _) V (fun _ => false) up (fun x hx => by have := mem x hx; omega) (fun u v huv => dep u v fun j hj => huv j (.inr hj))
  rw [show (fun u => den A u f) = sem L i from funext hd, e2.2, ec_count] at e1
  refine ⟨?_, e2.1⟩
  rw [show (lev A f - (104 - ((104 : Nat) : Int))).toNat = (lev A f).toNat by omega] at e1
  rw [← e1, Nat.mul_comm]
  refine congrArg (· * _) (List.countP_congr fun w hw => ?_)
  rw [apN_eq w nod]
theorem least_eq : LS (fun u => den A u f) 104 (fun _ => false) = (fstW L i (2 ^ (varsL L 104).length)).map fun w => apN (varsL L 104) w (varsL L 104).length := by
  have up := vars_up L 104
  have nod := vars_nodup L 104
  have mem : ∀ x ∈ varsL L 104, 0 ≤ x ∧ x < 104 := fun x hx => ⟨(vars_mem hx).1, (vars_mem hx).2.1⟩
  have dep := sem_dep h i.toNat i (Nat.le_refl _) h0 h1
  unfold fstW
  generalize varsL L 104 = V at *
  rw [show (fun u => den A u f) = sem L i from funext hd, LS_le (D := sem L i) 104 (Nat.le_refl _) V (fun _ => false) up (fun x hx => by have := mem x hx; omega) (fun u v huv => dep u v fun j hj => huv j (.inr hj)) (fun _ _ _ _ => rfl), le_find]
  have e : ((List.range (2 ^ V.length)).find? fun w => sem L i (apN V w V.length)) = (List.range (2 ^ V.length)).find? fun w => sem L i (apF V w fun _ => false) := find_congr fun w hw => by rw [apN_eq w nod]
  rw [e]
  cases (List.range (2 ^ V.length)).find? fun w => sem L i (apF V w fun _ => false) with
  | none => rfl
  | some w => simp [apN_eq w nod]
end
end Go.Proofs.Yticodddigaiipaa
