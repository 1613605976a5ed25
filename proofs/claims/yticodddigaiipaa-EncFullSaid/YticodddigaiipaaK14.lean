/-
  Calls that write, and calls that lay rows, in regions whose order is drawn.
-/
import Derived.Test.YticodddigaiipaaK12
set_option linter.unusedVariables false
set_option linter.unusedSimpArgs false
namespace Go.Proofs.Yticodddigaiipaa
open Go.RowKit

/-- A slice that owns a new row. -/
def Pd.row (w0 : World) (e k n : Nat) (xs : List Value) : Pd (Old w0) :=
  ⟨fun x w => ∃ Q c, x = .slice Q n c ∧ w.ownsRow 0 e k (.slice Q n c) n xs ∧ ∀ j, (Value.slice Q n c).ownBlock = some j → w0.heap.size ≤ j, fun h t => by
    obtain ⟨Q, c, hx, ho, hb⟩ := h
    exact ⟨Q, c, hx, own_touch ho t (fun j hj hf => by have := hb j hj; unfold Old at hf; omega), hb⟩⟩
section
variable {P : Program} {w0 : World} {a0 : Act} {dl : List Nat} {I : Inv Gr.grow dl} {ops : Array Oper} {Φ : List (Pd (Old w0))} {anc : List (List Nat)} {sp : List Nat} {i : Nat} {o : Oper} {k : List (Nat × Option Nat)}
/-- A call ahead of the writing operations: what it answers is φ. -/
theorem Zcp {φ : Pd (Old w0)} {f : FuncId} {args : Array Value} {hI : ∀ a w, I.p 0 a w → Ext w0 w} (hs : sp.contains i = false) (hh : hiPh anc sp i = 0) (hg : o.guard = none)
    (h : ∀ a w, Ext w0 w → Know (Old w0) a0 Φ a w k → (execOp a.eval o).run P w = .ok (.enter f args) w ∧ Calls P f args w fun e w' => ∃ v, e = .returned v ∧ Ext w w' ∧ φ.p v w') : Obl P (Old w0) I w0 a0 ops Φ anc sp i o φ k :=
  .q hs fun a w p _ hp T hp0 k => by
    rw [hh] at hp
    obtain rfl : p = 0 := Nat.eq_zero_of_le_zero hp
    exact .plain hg (.call (h a w (hI a w hp0) k).1 (h a w (hI a w hp0) k).2 fun _ _ ⟨v, h1, h2, h3⟩ => ⟨v, h1, h2, h3⟩)
end
theorem old_mut {w1 w w' : World} {F1 F2 : Nat → Prop} (m : Mut F1 F2 w w') (hF : ∀ k, F1 k → k < w1.heap.size) : Touch (Old w1) w w' := m.touch.mono fun k _ hk => hF k hk
end Go.Proofs.Yticodddigaiipaa
