/-
  Rows of elements that are read one by one; what is written in a part of the memory.
-/
import Derived.Test.YticodddigaiipaaSatK11
set_option linter.unusedVariables false
set_option linter.unusedSimpArgs false
set_option linter.unusedSectionVars false
namespace Go.Proofs.Yticodddigaiipaa
open Go.RowKit

section
variable {α : Type} {enc : α → List Value} {k : Nat}
/-- The cells of a list's elements, one behind the other. -/
def flat (enc : α → List Value) (L : List α) : List Value := L.flatMap enc
theorem flat_len (he : ∀ x, (enc x).length = k) : ∀ L : List α, (flat enc L).length = L.length * k
  | [] => by simp [flat]
  | x :: L => by
    have := flat_len he L
    simp only [flat, List.flatMap_cons, List.length_append, List.length_cons, he] at this ⊢
    rw [this, Nat.add_mul]; omega
theorem flat_push (A : List α) (x : α) : flat enc A ++ enc x = flat enc (A ++ [x]) := by simp [flat]
theorem flat_at (he : ∀ x, (enc x).length = k) : ∀ (L : List α) (i : Nat) (x : α), L[i]? = some x → ∀ j, j < k → (flat enc L)[i * k + j]? = (enc x)[j]?
  | [], _, _, h => by simp at h
  | y :: L, 0, x, h => by
    intro j hj
    simp at h; subst h
    rw [show flat enc (y :: L) = enc y ++ flat enc L from rfl, List.getElem?_append_left (by rw [he]; omega)]
    congr 1; omega
  | y :: L, i + 1, x, h => by
    intro j hj
    have := flat_at he L i x (by simpa using h) j hj
    rw [show flat enc (y :: L) = enc y ++ flat enc L from rfl, List.getElem?_append_right (by rw [he, Nat.add_mul]; omega), ← this, he]
    congr 1; rw [Nat.add_mul]; omega

/-- The i-th element, or d. -/
def at_ (L : List α) (d : α) (i : Int) : α := (L[i.toNat]?).getD d
theorem at_some {L : List α} {d : α} {i : Int} (h0 : 0 ≤ i) (h1 : i < L.length) : L[i.toNat]? = some (at_ L d i) := by
  have : i.toNat < L.length := by omega
  simp [at_, this]
theorem at_some' {L : List α} {d : α} {i : Int} {n : Nat} (hn : n = L.length) (h0 : 0 ≤ i) (h1 : i < n) : L[i.toNat]? = some (at_ L d i) := at_some h0 (hn ▸ h1)
theorem at_mem {L : List α} {d : α} {i : Int} (h0 : 0 ≤ i) (h1 : i < L.length) : at_ L d i ∈ L := List.mem_of_getElem? (at_some h0 h1)
end

theorem own_addr {w : World} {base e k n c : Nat} {A : Option Addr} {xs : List Value} (h : w.ownsRow base e k (.slice A n c) n xs) (hn : 0 < n) : ∃ row, A = some ⟨row, 0, none⟩ := by
  obtain ⟨row, c', hv⟩ := own_some h hn
  injection hv with h1
  exact ⟨row, h1⟩
theorem own_cap {w : World} {base e k n m c : Nat} {A : Option Addr} {xs : List Value} (h : w.ownsRow base e k (.slice A m c) n xs) : n ≤ c := by
  rcases h.2 with ⟨h, h0⟩ | ⟨g, cap, cur, hv, hb, hg, hn, hc, hs, ht⟩
  · omega
  · injection hv with h1 _ h3; omega
theorem own_cell {w : World} {base e k n c row : Nat} {A : Option Addr} {xs : List Value} (h : w.ownsRow base e k (.slice A n c) n xs) (hA : A = some ⟨row, 0, none⟩) : ∀ j u, xs[j]? = some u → w.cell? ⟨row, j, none⟩ = some u := by
  subst hA
  intro j u hu
  have := h.cells (g := row) rfl j u hu
  rw [addr_add, Nat.zero_add] at this
  exact this
/-- A cell of an element. -/
theorem own_at {α : Type} {enc : α → List Value} {w : World} {base e k n c row : Nat} {A : Option Addr} {L : List α} (h : w.ownsRow base e k (.slice A n c) n (flat enc L)) (hA : A = some ⟨row, 0, none⟩) (he : ∀ x, (enc x).length = k) {i : Nat} {x : α} (hx : L[i]? = some x) (j : Nat) {u : Value} (hu : (enc x)[j]? = some u) : w.cell? ⟨row, i * k + j, none⟩ = some u := by
  refine own_cell h hA _ _ ?_
  have hj : j < k := by rw [← he x]; exact (List.getElem?_eq_some_iff.1 hu).1
  rw [flat_at he L i x hx j hj, hu]
/-- Some of an element's cells. -/
theorem own_ats {α : Type} {enc : α → List Value} {w : World} {base e k n c row : Nat} {A : Option Addr} {L : List α} (h : w.ownsRow base e k (.slice A n c) n (flat enc L)) (hA : A = some ⟨row, 0, none⟩) (he : ∀ x, (enc x).length = k) {i : Nat} {x : α} (hx : L[i]? = some x) (j : Nat) {us : List Value} (hu : ((enc x).drop j).take us.length = us) : ∀ q u, us[q]? = some u → w.cell? ((⟨row, i * k + j, none⟩ : Addr).add q) = some u := by
  intro q u hq
  rw [addr_add, Nat.add_assoc]
  refine own_at h hA he hx (j + q) ?_
  have hl : q < us.length := (List.getElem?_eq_some_iff.1 hq).1
  rw [← hu, List.getElem?_take_of_lt hl, List.getElem?_drop] at hq
  exact hq

section
variable {P : Program} {a : Act} {w : World} {dst : Option Tmp} {ty : TypeId} {pos : String} {af : Array Edge} {g : Option (Nat × Bool)} {x y : Operand}
theorem ex_ixa {t e : TypeId} {k b n c : Nat} {A : Option Addr} {kd : IntKind} {i : Int} (ht : P.underlying t = some (.slice e)) (hs : (sizeOf e).run P w = .ok k w) (hx : a.eval x = .slice A n c) (hA : A = some ⟨b, 0, none⟩) (hy : a.eval y = .int kd i) (h0 : 0 ≤ i) (h1 : i < n) :
    (execOp a.eval ⟨dst, .indexAddr t x y, ty, pos, af, g⟩).run P w = .ok (.value (.pointer (some ⟨b, i.toNat * k, none⟩))) w := by
  subst hA
  have h := run_indexAt (P := P) (w := w) ht hs (b := b) (o := 0) (c := c) (kd := kd) h0 h1
  rw [Nat.zero_add] at h
  exact ex_indexAddr hx hy h
end

/-- A block as a row. -/
theorem own_of {w : World} {b t k n : Nat} {cs : List Value} (h : w.heap[b]? = some (.cells cs.toArray t (0, 0))) (hl : cs.length = n * k) (hm : n ≤ maxLen) : w.ownsRow 0 t k (.slice (some ⟨b, 0, none⟩) n n) n cs :=
  ⟨hl, .inr ⟨b, n, cs.toArray, rfl, Nat.zero_le _, h, Nat.le_refl _, hm, by simp [hl], by simp [← hl]⟩⟩

theorem flat_take {α : Type} {enc : α → List Value} {k : Nat} (he : ∀ x, (enc x).length = k) : ∀ (L : List α) (m : Nat), flat enc (L.take m) = (flat enc L).take (m * k)
  | [], m => by simp [flat]
  | x :: L, 0 => by simp [flat]
  | x :: L, m + 1 => by
    have := flat_take he L m
    rw [List.take_succ_cons, show flat enc (x :: L.take m) = enc x ++ flat enc (L.take m) from rfl, show flat enc (x :: L) = enc x ++ flat enc L from rfl, this, List.take_append, he, Nat.add_mul, Nat.one_mul, Nat.add_sub_cancel, List.take_of_length_le (l := enc x) (by rw [he]; omega)]
theorem own_cut {α : Type} {enc : α → List Value} {w : World} {base e k n m c row : Nat} {L : List α} (h : w.ownsRow base e k (.slice (some ⟨row, 0, none⟩) n c) n (flat enc L)) (he : ∀ x, (enc x).length = k) (hm : m ≤ n) : w.ownsRow base e k (.slice (some ⟨row, 0, none⟩) m c) m (flat enc (L.take m)) := by
  have hl := h.1
  rw [flat_len he] at hl
  rcases h.2 with ⟨h, _⟩ | ⟨g, cap, cur, hv, hb, hg, hn, hc, hs, ht⟩
  · cases h
  · injection hv with h1 _ h3
    subst h3
    refine ⟨?_, .inr ⟨g, c, cur, by rw [h1], hb, hg, by omega, hc, hs, ?_⟩⟩
    · rw [flat_take he, List.length_take, h.1]
      exact Nat.min_eq_left (Nat.mul_le_mul_right _ hm)
    · rw [flat_take he, ← ht, List.take_take]
      congr 1
      exact (Nat.min_eq_left (Nat.mul_le_mul_right _ hm)).symm

theorem Mut.inF {F F1 F2 : Nat → Prop} {w w1 w2 : World} (m : Mut F1 F2 w1 w2) (x : Touch F w w1) (h : ∀ j, F1 j → F j ∨ w.heap.size ≤ j) : ∀ j, F2 j → F j ∨ w.heap.size ≤ j := fun j hj => by
  rcases m.fresh j hj with hf | hf
  · exact h j hf
  · exact .inr (Nat.le_trans x.size hf)
theorem Mut.block {F1 F2 : Nat → Prop} {w w' : World} (h : Mut F1 F2 w w') {b : Nat} (hb : b < w.heap.size) (hn : ¬ F1 b) : w'.heap[b]? = w.heap[b]? := h.touch.block b hb hn
theorem Mut.own {F1 F2 : Nat → Prop} {w w' : World} (m : Mut F1 F2 w w') {base e k n : Nat} {v : Value} {xs : List Value} (h : w.ownsRow base e k v n xs) (hn : ∀ j, v.ownBlock = some j → ¬ F1 j) : w'.ownsRow base e k v n xs :=
  own_same h fun j hj => m.block (own_lt h hj) (hn j hj)
theorem blk_no {N c : Nat} {ob : Option Nat} {v : Value} (h : v.ownBlock = ob ∨ ∃ j, v.ownBlock = some j ∧ N ≤ j) (hc : c < N) (hn : ∀ j, ob = some j → j ≠ c) : ∀ j, v.ownBlock = some j → j ≠ c := fun j hj => by
  rcases h with h | ⟨i, h, hi⟩
  · exact hn j (h.symm.trans hj)
  · rw [hj] at h; injection h with h; omega
theorem App.out {w1 w : World} {e k n : Nat} {ob : Option Nat} {xs : List Value} {v : Value} {Fp : Nat → Prop} (h : App w1 e k n ob xs v w) (hF : ∀ k, Fp k → k < w1.heap.size) (hn : ∀ j, ob = some j → ¬ Fp j) : ∀ j, v.ownBlock = some j → ¬ Fp j := fun j hj hf => by
  rcases h.blk with h | ⟨i, h, hi⟩
  · exact hn j (h.symm.trans hj) hf
  · rw [hj] at h; injection h with h; have := hF j hf; omega
end Go.Proofs.Yticodddigaiipaa
