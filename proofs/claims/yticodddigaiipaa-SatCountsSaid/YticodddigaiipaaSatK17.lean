/-
  Slices that came in, read; where a row lies.
-/
import Derived.Test.YticodddigaiipaaSatK13
import Derived.Test.YticodddigaiipaaSatK12
import Derived.Test.YticodddigaiipaaSatK16
set_option linter.unusedVariables false
set_option linter.unusedSectionVars false
set_option linter.unusedSimpArgs false
namespace Go.Proofs.Yticodddigaiipaa
open Go.RowKit

def rowB (A : Option Addr) : Nat := match A with | some a => a.block | none => 0
def rowO (A : Option Addr) : Nat := match A with | some a => a.off | none => 0
theorem own_eqA {w : World} {base e k n c : Nat} {A : Option Addr} {xs : List Value} (h : w.ownsRow base e k (.slice A n c) n xs) (hn : 0 < n) : A = some ⟨rowB A, 0, none⟩ := by
  obtain ⟨row, rfl⟩ := own_addr h hn; rfl
theorem own_ne_block {w : World} {base e k n c b : Nat} {A : Option Addr} {xs : List Value} (hn : ∀ j, (Value.slice A n c).ownBlock = some j → j ≠ b) (h : w.ownsRow base e k (.slice A n c) n xs) (h0 : 0 < n) : b ≠ rowB A := by
  have e := own_eqA h h0
  exact fun q => hn (rowB A) (by rw [e]; rfl) q.symm
theorem own_base_block {w : World} {base e k n c N : Nat} {A : Option Addr} {xs : List Value} (hn : ∀ j, (Value.slice A n c).ownBlock = some j → N ≤ j) (h : w.ownsRow base e k (.slice A n c) n xs) (h0 : 0 < n) : N ≤ rowB A := by
  have e := own_eqA h h0
  exact hn (rowB A) (by rw [e]; rfl)
theorem row_nor {N : Nat} {v x : Value} (h : ∀ j, v.ownBlock = some j → N ≤ j) (hx : ∀ j, x.ownBlock = some j → j < N) : ∀ j, v.ownBlock = some j → x.ownBlock ≠ some j := fun j hj e => by have := h j hj; have := hx j e; omega
theorem App.nor {w1 w : World} {e k n : Nat} {ob : Option Nat} {xs : List Value} {v x : Value} (h : App w1 e k n ob xs v w) (hx : ∀ j, x.ownBlock = some j → j < w1.heap.size) (hn : ∀ j, ob = some j → x.ownBlock ≠ some j) : ∀ j, v.ownBlock = some j → x.ownBlock ≠ some j := fun j hj e => by
  rcases h.blk with hb | ⟨q, hb, hq⟩
  · exact hn j (hb.symm.trans hj) e
  · rw [hj] at hb; injection hb with hb; subst hb
    have := hx j e; omega
theorem nor_symm {v x : Value} (h : ∀ j, v.ownBlock = some j → x.ownBlock ≠ some j) : ∀ j, x.ownBlock = some j → v.ownBlock ≠ some j := fun j hj e => h j e hj
section
variable {w w' : World} {k n c : Nat} {A : Option Addr} {xs : List Value}
theorem Reads.eqA (h : Reads w (.slice A n c) k xs n) (hn : 0 < n) : A = some ⟨rowB A, rowO A, none⟩ := by
  rcases h.val with ⟨h0, _⟩ | ⟨b, o, c', hv, _⟩
  · omega
  · injection hv with h1 _ _; subst h1; rfl
theorem Reads.cell (h : Reads w (.slice A n c) k xs n) {b o : Nat} (hA : A = some ⟨b, o, none⟩) : ∀ j u, xs[j]? = some u → w.cell? ⟨b, o + j, none⟩ = some u := by
  intro j u hu
  rcases h.val with ⟨h0, _⟩ | ⟨b', o', c', hv, hc⟩
  · have := h.len
    rw [h0, Nat.zero_mul] at this
    rw [List.eq_nil_of_length_eq_zero this] at hu
    simp at hu
  · injection hv with h1 _ _
    rw [hA] at h1
    injection h1 with h1
    injection h1 with h1 h2
    subst h1; subst h2
    exact hc j u hu
theorem Reads.lt (h : Reads w (.slice A n c) k xs n) (hk : 0 < k) {j : Nat} (hj : (Value.slice A n c).ownBlock = some j) (hn : 0 < n) : j < w.heap.size := by
  have e := h.eqA hn
  have hl : 0 < xs.length := by rw [h.len]; exact Nat.mul_pos hn hk
  have := h.cell e 0 xs[0] (by simp [hl])
  rw [e] at hj
  simp only [Value.ownBlock] at hj
  injection hj with hj
  rw [← hj]
  exact World.block_lt_of_cell? w _ this
theorem Reads.touch {F : Nat → Prop} (h : Reads w (.slice A n c) k xs n) (t : Touch F w w') (hk : 0 < k) (hF : ∀ j, (Value.slice A n c).ownBlock = some j → 0 < n → ¬ F j) : Reads w' (.slice A n c) k xs n := by
  by_cases hn : 0 < n
  · have e := h.eqA hn
    refine ⟨h.len, .inr ⟨_, _, _, by rw [← e], fun j u hu => ?_⟩⟩
    have hc := h.cell e j u hu
    have hj : (Value.slice A n c).ownBlock = some (rowB A) := by rw [e]; rfl
    have hb := t.block _ (h.lt hk hj hn) (hF _ hj hn)
    unfold World.cell? at hc ⊢
    simp only at hc ⊢
    rw [hb]; exact hc
  · have : n = 0 := by omega
    subst this
    exact ⟨h.len, .inl ⟨rfl, _, _, rfl⟩⟩
theorem reads_noF (v : Value) (n : Nat) : ∀ j, v.ownBlock = some j → 0 < n → ¬ NoF j := fun _ _ _ h => h
variable {α : Type} {enc : α → List Value} {L : List α} {b o : Nat}
theorem rd_at (h : Reads w (.slice A n c) k (flat enc L) n) (hA : A = some ⟨b, o, none⟩) (he : ∀ x, (enc x).length = k) {i : Nat} {x : α} (hx : L[i]? = some x) (j : Nat) {u : Value} (hu : (enc x)[j]? = some u) : w.cell? ⟨b, o + i * k + j, none⟩ = some u := by
  have hj : j < k := by rw [← he x]; exact (List.getElem?_eq_some_iff.1 hu).1
  have := h.cell hA (i * k + j) u (by rw [flat_at he L i x hx j hj, hu])
  rwa [← Nat.add_assoc] at this
theorem rd_ats (h : Reads w (.slice A n c) k (flat enc L) n) (hA : A = some ⟨b, o, none⟩) (he : ∀ x, (enc x).length = k) {i : Nat} {x : α} (hx : L[i]? = some x) (j : Nat) {us : List Value} (hu : ((enc x).drop j).take us.length = us) : ∀ q u, us[q]? = some u → w.cell? ((⟨b, o + i * k + j, none⟩ : Addr).add q) = some u := by
  intro q u hq
  rw [addr_add, Nat.add_assoc]
  refine rd_at h hA he hx (j + q) ?_
  have hl : q < us.length := (List.getElem?_eq_some_iff.1 hq).1
  rw [← hu, List.getElem?_take_of_lt hl, List.getElem?_drop] at hq
  exact hq
theorem Reads.of_own {base e : Nat} (h : w.ownsRow base e k (.slice A n c) n xs) : Reads w (.slice A n c) k xs n := Reads.own h
end
section
variable {P : Program} {a : Act} {w : World} {dst : Option Tmp} {ty : TypeId} {pos : String} {af : Array Edge} {g : Option (Nat × Bool)} {x y : Operand}
theorem ex_ixr {t e : TypeId} {k b o n c : Nat} {A : Option Addr} {kd : IntKind} {i : Int} (ht : P.underlying t = some (.slice e)) (hs : (sizeOf e).run P w = .ok k w) (hx : a.eval x = .slice A n c) (hA : A = some ⟨b, o, none⟩) (hy : a.eval y = .int kd i) (h0 : 0 ≤ i) (h1 : i < n) :
    (execOp a.eval ⟨dst, .indexAddr t x y, ty, pos, af, g⟩).run P w = .ok (.value (.pointer (some ⟨b, o + i.toNat * k, none⟩))) w := by
  subst hA
  exact ex_indexAddr hx hy (run_indexAt (P := P) (w := w) ht hs (b := b) (o := o) (c := c) (kd := kd) h0 h1)
end
end Go.Proofs.Yticodddigaiipaa
