/-
  Regions with writing operations of other kinds; objects that are written: what they lie in.
-/
import Derived.Test.YticodddigaiipaaSatK8
set_option linter.unusedVariables false
set_option linter.unusedSimpArgs false
set_option linter.unusedSectionVars false
namespace Go.Proofs.Yticodddigaiipaa
open Go.RowKit

/-- Blocks of w that were there may turn. -/
def Old (w : World) : Nat → Prop := fun k => k < w.heap.size

section
variable {P : Program} {w0 : World} {a0 : Act} {F : Nat → Prop} {dl : List Nat} {I : Inv Gr.grow dl} {ops : Array Oper} {Φ : List (Pd F)} {anc : List (List Nat)} {sp : List Nat} {i : Nat} {o : Oper} {k : List (Nat × Option Nat)} {v : Value}
/-- Ahead of all writing operations: a value. -/
theorem Z {hI : ∀ a w, I.p 0 a w → Ext w0 w} (hs : sp.contains i = false) (hh : hiPh anc sp i = 0) (hg : o.guard = none) (h : ∀ a w, Ext w0 w → Know F a0 Φ a w k → (execOp a.eval o).run P w = .ok (.value v) w) : Obl P F I w0 a0 ops Φ anc sp i o (.eq v) k :=
  .q hs fun a w p _ hp T hp0 k => by
    rw [hh] at hp
    obtain rfl : p = 0 := Nat.eq_zero_of_le_zero hp
    exact .val hg (h a w (hI a w hp0) k)
/-- A new block ahead of them. -/
def Pd.new {F : Nat → Prop} (base : Nat) (hF : ∀ k, F k → k < base) (mk : Nat → Value) (o : Obj) : Pd F :=
  ⟨fun x w => ∃ b, x = mk b ∧ base ≤ b ∧ w.heap[b]? = some o, fun h k => by
    obtain ⟨b, hx, hb, hh⟩ := h
    exact ⟨b, hx, hb, k.keep hh (fun hf => by have := hF b hf; omega)⟩⟩
theorem Znew {x : Obj} {mk : Nat → Value} {hF : ∀ k, F k → k < w0.heap.size} {hI : ∀ a w, I.p 0 a w → Ext w0 w} (hs : sp.contains i = false) (hh : hiPh anc sp i = 0) (hg : o.guard = none)
    (h : ∀ a w, Ext w0 w → Know F a0 Φ a w k → (execOp a.eval o).run P w = .ok (.value (mk w.heap.size)) (w.alloc x)) : Obl P F I w0 a0 ops Φ anc sp i o (.new w0.heap.size hF mk x) k :=
  .q hs fun a w p _ hp T hp0 k => by
    rw [hh] at hp
    obtain rfl : p = 0 := Nat.eq_zero_of_le_zero hp
    exact .plain hg (.val (h a w (hI a w hp0) k) ⟨Ext.alloc _ _, _, rfl, (hI a w hp0).size, heap_alloc _ _⟩)
/-- The writing operation number m. -/
theorem Zw {m : Nat} (hs : sp.contains i = true) (hl : loPh anc sp i = m) (hh : hiPh anc sp i = m) {φ : Pd F}
    (h : ∀ a w, I.p m a w → Know F a0 Φ a w k → Does P ops o a w fun v w' => (Touch F w w' ∧ I.p (m + 1) (a.put o.dst v) w') ∧ φ.p v w') : Obl P F I w0 a0 ops Φ anc sp i o φ k :=
  .s hs fun a w p hp1 hp2 T hp0 k => by
    rw [hl] at hp1; rw [hh] at hp2
    obtain rfl : p = m := Nat.le_antisymm hp2 hp1
    exact h a w hp0 k
end

/-- One writing operation, behind all that reads: what it leaves is R. -/
def Inv1 (w0 : World) (R : World → Prop) (hR : ∀ {w w'}, R w → Ext w w' → R w') : Inv Gr.grow [] :=
  ⟨fun n _ w => match n with | 0 => Ext w0 w | _ => R w, fun {n a a' w w'} h _ k => by cases n with | zero => exact Ext.trans h k | succ n => exact hR h k⟩
/-- Two: the first one's value in slot t. -/
def Inv2 (w0 : World) (t : Nat) (R1 : Value → World → Prop) (R2 : World → Prop) (h1 : ∀ {v w w'}, R1 v w → Ext w w' → R1 v w') (h2 : ∀ {w w'}, R2 w → Ext w w' → R2 w') : Inv Gr.grow [t] :=
  ⟨fun n a w => match n with | 0 => Ext w0 w | 1 => a.eval (.tmp t) = undef ∨ R1 (a.eval (.tmp t)) w | _ => R2 w, fun {n a a' w w'} h he k => by
    match n, h with
    | 0, h => exact Ext.trans h k
    | 1, h => have := he t (by simp); rw [← this] at h; exact h.imp id fun h => h1 h k
    | n + 2, h => exact h2 h k⟩

theorem Inv2.here {w0 : World} {t : Nat} {R1 : Value → World → Prop} {R2 : World → Prop} {h1 : ∀ {v w w'}, R1 v w → Ext w w' → R1 v w'} {h2 : ∀ {w w'}, R2 w → Ext w w' → R2 w'} {a : Act} {w : World} {v : Value} (h : R1 v w) : (Inv2 w0 t R1 R2 h1 h2).p 1 (a.put (some t) v) w := by
  show (a.put (some t) v).eval (.tmp t) = undef ∨ R1 ((a.put (some t) v).eval (.tmp t)) w
  by_cases hs : t < a.tmps.size
  · rw [eval_put_same hs]; exact .inr h
  · left; simp [Act.eval, Act.put, hs]
theorem Inv2.get {w0 : World} {t : Nat} {R1 : Value → World → Prop} {R2 : World → Prop} {h1 : ∀ {v w w'}, R1 v w → Ext w w' → R1 v w'} {h2 : ∀ {w w'}, R2 w → Ext w w' → R2 w'} {a : Act} {w : World} (h : (Inv2 w0 t R1 R2 h1 h2).p 1 a w) (hn : a.eval (.tmp t) ≠ undef) : R1 (a.eval (.tmp t)) w := Or.resolve_left h hn
def Pd.ok {F : Nat → Prop} : Pd F := ⟨fun x _ => x ≠ undef, fun h _ => h⟩

theorem rw1 {P : Program} {w0 : World} {a0 : Act} {Q : Exit → Act → World → Prop} {l : List Oper} {id : Nat} {draw : Bool} (hm : P.follows .mixedOrders = true) (n i : Nat) (R : World → Prop) (hR : ∀ {w w'}, R w → Ext w w' → R w') (Φ : List (Pd (Old w0))) (tbl : List (List (Nat × Option Nat))) (d0 : a0.defers = []) (z0 : a0.tmps.size = n)
    (hc : chk l.toArray tbl (mkAnc l.toArray) n = true) (hi : ((nodups [i]) && [i].all fun x => decide (x < l.length)) = true) (hO : Obls P (Old w0) (Inv1 w0 R hR) w0 a0 l.toArray Φ (mkAnc l.toArray) [i] 0 l Φ tbl)
    (next : ∀ a w, a.defers = [] → a.tmps.size = n → R w → Ends (Old w0) a w l Φ → (∀ t, (dsts l.toArray).contains t = false → a.eval (.tmp t) = a0.eval (.tmp t)) → Q .normal a w) :
    (Code.region id l.toArray draw).wp P Q a0 w0 :=
  region_rule n Φ tbl (mkAnc l.toArray) [i] z0 hm hc hi (Ext.refl _) rfl hO fun a w hd hz _ hI he hq => next a w (hd.trans d0) hz hI he hq
theorem rw2 {P : Program} {w0 : World} {a0 : Act} {Q : Exit → Act → World → Prop} {l : List Oper} {id : Nat} {draw : Bool} (hm : P.follows .mixedOrders = true) (n i j t : Nat) (R1 : Value → World → Prop) (R2 : World → Prop) (h1 : ∀ {v w w'}, R1 v w → Ext w w' → R1 v w') (h2 : ∀ {w w'}, R2 w → Ext w w' → R2 w') (Φ : List (Pd (Old w0))) (tbl : List (List (Nat × Option Nat))) (d0 : a0.defers = []) (z0 : a0.tmps.size = n)
    (hc : chk l.toArray tbl (mkAnc l.toArray) n = true) (hi : ((nodups [i, j]) && [i, j].all fun x => decide (x < l.length)) = true) (hdl : (([t] : List Nat).all fun d => ([i, j] : List Nat).any fun s => ((l[s]?).map (·.dst == some d)).getD false) = true)
    (hO : Obls P (Old w0) (Inv2 w0 t R1 R2 h1 h2) w0 a0 l.toArray Φ (mkAnc l.toArray) [i, j] 0 l Φ tbl)
    (next : ∀ a w, a.defers = [] → a.tmps.size = n → R2 w → Ends (Old w0) a w l Φ → (∀ t, (dsts l.toArray).contains t = false → a.eval (.tmp t) = a0.eval (.tmp t)) → Q .normal a w) :
    (Code.region id l.toArray draw).wp P Q a0 w0 :=
  region_rule n Φ tbl (mkAnc l.toArray) [i, j] z0 hm hc hi (Ext.refl _) hdl hO fun a w hd hz _ hI he hq => next a w (hd.trans d0) hz hI he hq

/-! ### Objects that are written -/
/-- An object that lay in Fp lies in Fp' now: nothing else has turned. -/
structure Mut (Fp Fp' : Nat → Prop) (w w' : World) : Prop where
  touch : Touch Fp w w'
  fresh : ∀ k, Fp' k → Fp k ∨ w.heap.size ≤ k
theorem Mut.keep {F1 F2 : Nat → Prop} {w w' : World} (h : Mut F1 F2 w w') {b : Nat} {o : Obj} (hb : w.heap[b]? = some o) (hn : ¬ F1 b) : w'.heap[b]? = some o := h.touch.keep hb hn
theorem Mut.out {F1 F2 : Nat → Prop} {w w' : World} (h : Mut F1 F2 w w') {b : Nat} (hb : b < w.heap.size) (hn : ¬ F1 b) : ¬ F2 b := fun hf => by
  rcases h.fresh b hf with hf | hf
  · exact hn hf
  · omega
theorem Touch.mut {F F1 F2 : Nat → Prop} {w0 w w' : World} (h : Touch F w0 w) (k : Mut F1 F2 w w') (hF : ∀ j, F1 j → F j ∨ w0.heap.size ≤ j) : Touch F w0 w' :=
  ⟨k.touch.os.trans h.os, k.touch.tape.trans h.tape, k.touch.output.trans h.output, Nat.le_trans h.size k.touch.size, fun j hj hn =>
    (k.touch.block j (Nat.lt_of_lt_of_le hj h.size) fun hf => by
      rcases hF j hf with hf | hf
      · exact hn hf
      · omega).trans (h.block j hj hn)⟩
end Go.Proofs.Yticodddigaiipaa
