/-
  What expressions over sets mean, and what is known while their sets are made.
-/
import Derived.Test.YticodddigaiipaaSatS4
set_option linter.unusedVariables false
set_option linter.unusedSectionVars false
set_option linter.unusedSimpArgs false
namespace Go.Proofs.Yticodddigaiipaa
open Go.RowKit

def semF (x : Ex) (f : Int → (Int → Bool) → Bool) (v : Int → Bool) : Bool :=
  if x.k = 1 then true else if x.k = 2 then v x.v == x.on
  else if x.k = 3 then f x.a v && f x.b v
  else if x.k = 4 then f x.a v || f x.b v
  else if x.k = 5 then xor (f x.a v) (f x.b v)
  else if x.k = 6 then f x.a v && !f x.b v
  else if x.k = 7 then !f x.a v
  else if x.k = 8 then f x.a (upd v x.v x.on)
  else if x.k = 9 then if f x.a v then f x.b v else f x.c v
  else false
def semN (L : List Ex) : Nat → Int → (Int → Bool) → Bool
  | 0, _, _ => false
  | n + 1, i, v => semF (at_ L e0 i) (semN L n) v
def sem (L : List Ex) (i : Int) (v : Int → Bool) : Bool := semN L (i.toNat + 1) i v
theorem semF_congr {x : Ex} {f g : Int → (Int → Bool) → Bool} (h : 3 ≤ x.k → (∀ u, f x.a u = g x.a u) ∧ (∀ u, f x.b u = g x.b u) ∧ (∀ u, f x.c u = g x.c u)) (v : Int → Bool) : semF x f v = semF x g v := by
  unfold semF
  by_cases h3 : 3 ≤ x.k
  · obtain ⟨ha, hb, hc⟩ := h h3
    rw [ha v, hb v, hc v, ha (upd v x.v x.on)]
  · have e : ∀ n : Int, 3 ≤ n → ¬ x.k = n := fun n hn => by omega
    simp only [e 3 (by omega), e 4 (by omega), e 5 (by omega), e 6 (by omega), e 7 (by omega), e 8 (by omega), e 9 (by omega), if_false]
theorem semN_more {L : List Ex} (h : RightL L) : ∀ (m : Nat) (n : Nat) (i : Int) (v : Int → Bool), i.toNat ≤ m → 0 ≤ i → i < L.length → i.toNat < n → semN L n i v = sem L i v := by
  intro m
  induction m with
  | zero =>
    intro n i v hm h0 h1 hn
    obtain ⟨n, rfl⟩ : ∃ q, n = q + 1 := ⟨n - 1, by omega⟩
    have hx := h i h0 h1
    exact semF_congr (fun q => by have := (hx.abc q).1; omega) v
  | succ m ih =>
    intro n i v hm h0 h1 hn
    obtain ⟨n, rfl⟩ : ∃ q, n = q + 1 := ⟨n - 1, by omega⟩
    have hx := h i h0 h1
    refine semF_congr (fun h3 => ?_) v
    obtain ⟨ha, hb, hc⟩ := hx.abc h3
    exact ⟨fun u => by rw [ih n _ u (by omega) ha.1 (by omega) (by omega), ih i.toNat _ u (by omega) ha.1 (by omega) (by omega)],
      fun u => by rw [ih n _ u (by omega) hb.1 (by omega) (by omega), ih i.toNat _ u (by omega) hb.1 (by omega) (by omega)],
      fun u => by rw [ih n _ u (by omega) hc.1 (by omega) (by omega), ih i.toNat _ u (by omega) hc.1 (by omega) (by omega)]⟩
theorem sem_step {L : List Ex} (h : RightL L) {i : Int} (h0 : 0 ≤ i) (h1 : i < L.length) (v : Int → Bool) : sem L i v = semF (at_ L e0 i) (sem L) v := by
  refine semF_congr (fun h3 => ?_) v
  obtain ⟨ha, hb, hc⟩ := (h i h0 h1).abc h3
  exact ⟨fun u => semN_more h _ _ _ u (Nat.le_refl _) ha.1 (by omega) (by omega), fun u => semN_more h _ _ _ u (Nat.le_refl _) hb.1 (by omega) (by omega), fun u => semN_more h _ _ _ u (Nat.le_refl _) hc.1 (by omega) (by omega)⟩
section
variable {L : List Ex} (h : RightL L) {i : Int} (h0 : 0 ≤ i) (h1 : i < L.length) (v : Int → Bool)
include h h0 h1
theorem sem_k0 (hk : (at_ L e0 i).k = 0) : sem L i v = false := by rw [sem_step h h0 h1, semF]; simp [hk]
theorem sem_k1 (hk : (at_ L e0 i).k = 1) : sem L i v = true := by rw [sem_step h h0 h1, semF]; simp [hk]
theorem sem_k2 (hk : (at_ L e0 i).k = 2) : sem L i v = (v (at_ L e0 i).v == (at_ L e0 i).on) := by rw [sem_step h h0 h1, semF]; simp [hk]
theorem sem_kj (h3 : 3 ≤ (at_ L e0 i).k) (h6 : (at_ L e0 i).k ≤ 6) : sem L i v = opK ((at_ L e0 i).k - 3) (sem L (at_ L e0 i).a v) (sem L (at_ L e0 i).b v) := by
  rw [sem_step h h0 h1, semF]
  have : (at_ L e0 i).k = 3 ∨ (at_ L e0 i).k = 4 ∨ (at_ L e0 i).k = 5 ∨ (at_ L e0 i).k = 6 := by omega
  rcases this with hk | hk | hk | hk <;> simp [hk, opK]
theorem sem_k7 (hk : (at_ L e0 i).k = 7) : sem L i v = !sem L (at_ L e0 i).a v := by rw [sem_step h h0 h1, semF]; simp [hk]
theorem sem_k8 (hk : (at_ L e0 i).k = 8) : sem L i v = sem L (at_ L e0 i).a (upd v (at_ L e0 i).v (at_ L e0 i).on) := by rw [sem_step h h0 h1, semF]; simp [hk]
theorem sem_k9 (hk : (at_ L e0 i).k = 9) : sem L i v = if sem L (at_ L e0 i).a v then sem L (at_ L e0 i).b v else sem L (at_ L e0 i).c v := by rw [sem_step h h0 h1, semF]; simp [hk]
end

theorem mem_vars {L : List Ex} {i : Int} : ∀ (n : Nat), 0 ≤ i → i < n → askd L i = true → i ∈ varsL L n
  | 0, h0, h1, _ => by omega
  | n + 1, h0, h1, ha => by
    simp only [varsL, List.mem_append]
    by_cases hi : i = n
    · right; rw [← hi]; simp [ha]
    · left; exact mem_vars n h0 (by omega) ha

structure MkInv (L : List Ex) (V : List Int) (A1 : List N3) (S : List Int) (k : Nat) (base M : Nat) : Prop where
  wf : Wf A1
  lv : LvIn V A1
  len : A1.length ≤ base + k * M
  sl : S.length = k
  ok : ∀ j : Int, 0 ≤ j → j < k → Okn A1 (at_ S 0 j) ∧ ∀ v, den A1 v (at_ S 0 j) = sem L j v
theorem at_app {α : Type} {S : List α} {d x : α} {j : Int} (h0 : 0 ≤ j) (h1 : j < S.length) : at_ (S ++ [x]) d j = at_ S d j := by
  simp only [at_]; rw [List.getElem?_append_left (by omega)]
theorem at_last {α : Type} {S : List α} {d x : α} {k : Nat} (h : S.length = k) : at_ (S ++ [x]) d (k : Int) = x := by
  subst h; simp [at_]
theorem MkInv.step {L : List Ex} {V : List Int} {A1 A2 : List N3} {S : List Int} {k base M : Nat} {most r : Int} (h : MkInv L V A1 S k base M) (pre : A1 <+: A2) (w2 : Wf A2) (g : Gw V A1 A2 most 0 M) (hr : Okn A2 r) (hd : ∀ v, den A2 v r = sem L (k : Int) v) : MkInv L V A2 (S ++ [r]) (k + 1) base M := by
  refine ⟨w2, g.lv, ?_, by simp [h.sl], fun j h0 h1 => ?_⟩
  · have := g.len; have := h.len; rw [Nat.add_mul]; omega
  · by_cases hj : j = k
    · subst hj; rw [at_last h.sl]; exact ⟨hr, hd⟩
    · rw [at_app h0 (by rw [h.sl]; omega)]
      obtain ⟨h2, h3⟩ := h.ok j h0 (by omega)
      exact ⟨ok_pre pre h2, fun v => by rw [den_pre pre h.wf w2 v _ h2]; exact h3 v⟩
theorem MkInv.full {L : List Ex} {V : List Int} {A1 A2 : List N3} {S : List Int} {k n base M : Nat} {most c : Int} (h : MkInv L V A1 S k base M) (hk : k < n) (g : Gw V A1 A2 most c M) (hm : ((base + n * M : Nat) : Int) ≤ most) : c = 0 := by
  refine Decidable.byContradiction fun hc => ?_
  have := g.full hc
  have hl := h.len
  have : k * M + M ≤ n * M := by rw [← Nat.succ_mul]; exact Nat.mul_le_mul_right _ hk
  omega
theorem gw_same {V : List Int} {A : List N3} {most : Int} {M : Nat} (h : LvIn V A) (hM : 0 < M) : Gw V A A most 0 M := ⟨h, by omega, fun hn => absurd rfl hn⟩
theorem Gw.eq0 {V : List Int} {A A' : List N3} {most e : Int} {M : Nat} (h : Gw V A A' most e M) (he : e = 0) : Gw V A A' most 0 M := he ▸ h
theorem m_pos (V : List Int) : 0 < 3 * 2 ^ V.length := by have := Nat.pow_pos (n := V.length) (show 0 < 2 by omega); omega
theorem m_pow (V : List Int) : 2 ^ V.length ≤ 3 * 2 ^ V.length := by omega
theorem m_two (V : List Int) : 2 ≤ 3 * 2 ^ V.length := by have := Nat.pow_pos (n := V.length) (show 0 < 2 by omega); omega
end Go.Proofs.Yticodddigaiipaa
