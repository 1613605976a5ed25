/-
  Arguments that came in, opened: what a reading as data tells of cells; a slice that came in reads as a list.
-/
import Derived.Test.YticodddigaiipaaSatK12
import Derived.ChangeArms
import Derived.OpenShut
import Derived.ShutString
import Derived.ChangeOld
import Derived.Below
set_option linter.unusedVariables false
set_option linter.unusedSectionVars false
set_option linter.unusedSimpArgs false
namespace Go.Proofs.Yticodddigaiipaa
open Go.RowKit

section
variable {H : Type} {enc : TypeId × Value → H} {P : Program} {w : World} {base : Nat} {sp : Nat → Bool} {held : Bool}

theorem td_int {t : TypeId} {k : IntKind} {f : Nat} {cs : List Value} {x : DataW H × List MemPlace} (ht : P.underlying t = some (.int k)) (h : DataW.trod enc P w base sp held f t cs = some x) : ∃ n, cs = [.int k n] ∧ k.min ≤ n ∧ n ≤ k.max := by
  obtain ⟨n, h1, _, h2⟩ := DataW.trod_int ht h
  simp only [Lit.wf, Bool.and_eq_true, decide_eq_true_eq] at h2
  exact ⟨n, h1, h2⟩
theorem td_bool {t : TypeId} {f : Nat} {cs : List Value} {x : DataW H × List MemPlace} (ht : P.underlying t = some .bool) (h : DataW.trod enc P w base sp held f t cs = some x) : ∃ b, cs = [.bool b] := by
  obtain ⟨b, h1, _⟩ := DataW.trod_bool ht h
  exact ⟨b, h1⟩
theorem td_struct {t : TypeId} {fs : Array Field} {c f : Nat} {cs : List Value} {x : DataW H × List MemPlace} (ht : P.underlying t = some (.struct fs)) (hc : P.cellsOf t = c) (h : DataW.trod enc P w base sp held f t cs = some x) :
    cs.length = c ∧ ∀ (i : Nat) (g : Field), fs[i]? = some g → ∃ f' y, DataW.trod enc P w base sp held f' g.type ((cs.drop g.offset).take (P.cellsOf g.type)) = some y := by
  obtain ⟨xs, n, _, _, hl, hx, hg⟩ := DataW.trod_struct ht h
  refine ⟨hl.trans hc, fun i g hi => ?_⟩
  have hlt : i < xs.length := by rw [hx]; exact (Array.getElem?_eq_some_iff.1 hi).1
  exact ⟨n, xs[i], by rw [hg i g hi]; simp [hlt]⟩
/-- A slice that came in, of elements that open one by one. -/
theorem td_slice {α : Type} {ec : α → List Value} {ok : α → Prop} {t e k f : Nat} {cs : List Value} {x : DataW H × List MemPlace} (ht : P.underlying t = some (.slice e)) (hc : P.cellsOf e = k) (hk : 0 < k)
    (op : ∀ f' es y, DataW.trod enc P w base sp held f' e es = some y → ∃ x : α, ok x ∧ es = ec x) (hl : ∀ x, (ec x).length = k) (h : DataW.trod enc P w base sp held f t cs = some x) :
    ∃ (L : List α) (A : Option Addr) (c : Nat), cs = [.slice A L.length c] ∧ (∀ x ∈ L, ok x) ∧ Reads w (.slice A L.length c) k (flat ec L) L.length ∧ L.length ≤ c ∧ c ≤ maxLen := by
  rcases DataW.trod_slice ht h with ⟨rfl, _⟩ | ⟨a, len, cap, elems, rest, n, _, rfl, _, hb, hle, hm, hlen, hel, _, _⟩
  · exact ⟨[], none, 0, rfl, by simp, ⟨by simp [flat], .inl ⟨rfl, _, _, rfl⟩⟩, Nat.le_refl _, Nat.zero_le _⟩
  · have each : ∀ i, i < len → ∃ x : α, ok x ∧ ∀ j, j < k → w.cell? ((a.add (i * k)).add j) = (ec x)[j]? := by
      intro i hi
      have h1 := hel i hi
      rw [hc] at h1
      have : i < elems.length := by omega
      rw [List.getElem?_eq_getElem this, Option.bind_eq_some_iff] at h1
      obtain ⟨es, h2, h3⟩ := h1
      obtain ⟨x, hx, rfl⟩ := op _ _ _ h3
      exact ⟨x, hx, fun j hj => (World.cells?_some h2).2.2 j hj⟩
    have hL : ∀ m, m ≤ len → ∃ L : List α, L.length = m ∧ (∀ x ∈ L, ok x) ∧ ∀ i x, L[i]? = some x → ∀ j, j < k → w.cell? ((a.add (i * k)).add j) = (ec x)[j]? := by
      intro m
      induction m with
      | zero => exact fun _ => ⟨[], rfl, by simp, by simp⟩
      | succ m ih =>
        intro hm
        obtain ⟨L, h1, h2, h3⟩ := ih (by omega)
        obtain ⟨x, hx, hj⟩ := each m (by omega)
        refine ⟨L ++ [x], by simp [h1], ?_, ?_⟩
        · intro y hy
          rcases List.mem_append.1 hy with hy | hy
          · exact h2 y hy
          · rw [List.mem_singleton.1 hy]; exact hx
        · intro i y hi
          by_cases hlt : i < m
          · rw [List.getElem?_append_left (by omega)] at hi; exact h3 i y hi
          · have : i = m := by
              have := (List.getElem?_eq_some_iff.1 hi).1
              simp [h1] at this; omega
            subst this
            rw [List.getElem?_append_right (by omega), h1] at hi
            simp at hi; subst hi; exact hj
    obtain ⟨L, h1, h2, h3⟩ := hL len (Nat.le_refl _)
    subst h1
    refine ⟨L, some a, cap, rfl, h2, ⟨flat_len hl L, ?_⟩, hle, hm⟩
    by_cases h0 : L.length = 0
    · exact .inl ⟨h0, some a, cap, by simp [h0]⟩
    · right
      have hsp : a.spot = none := by
        have h4 := h3 0 L[0] (by simp) 0 hk
        simp only [Nat.zero_mul, Addr.add, if_true] at h4
        rw [List.getElem?_eq_getElem (by rw [hl]; exact hk)] at h4
        unfold World.cell? at h4
        split at h4
        · cases hs : a.spot with
          | none => rfl
          | some q => rw [hs] at h4; simp at h4
        · cases h4
      refine ⟨a.block, a.off, cap, by cases a; simp_all, fun j u hu => ?_⟩
      have hj : j < L.length * k := by have := (List.getElem?_eq_some_iff.1 hu).1; rwa [flat_len hl] at this
      have hi : j / k < L.length := Nat.div_lt_of_lt_mul (by rwa [Nat.mul_comm] at hj)
      have hr : j % k < k := Nat.mod_lt _ hk
      have h5 := h3 (j / k) L[j / k] (by simp [hi]) (j % k) hr
      have h6 := flat_at hl L (j / k) L[j / k] (by simp [hi]) (j % k) hr
      have e : j / k * k + j % k = j := by rw [Nat.mul_comm]; exact Nat.div_add_mod j k
      rw [e] at h6
      rw [← h6, hu] at h5
      have e2 : (a.add (j / k * k)).add (j % k) = ⟨a.block, a.off + j, none⟩ := by
        obtain ⟨b, o, s⟩ := a
        simp only at hsp
        subst hsp
        simp only [Addr.add]
        split <;> split <;> simp <;> omega
      rw [e2] at h5
      exact h5
end
end Go.Proofs.Yticodddigaiipaa
