/-
  A region of open order with one call that turns one block, and a store at its end; a part of an array by value.
-/
import Derived.Test.YticodddigaiipaaSatK19
import Derived.ChangeKeysEq
set_option linter.unusedVariables false
set_option linter.unusedSectionVars false
set_option linter.unusedSimpArgs false
namespace Go.Proofs.Yticodddigaiipaa
open Go.RowKit

theorem ex_index1 {P : Program} {a : Act} {w : World} {dst : Option Tmp} {ty : TypeId} {pos : String} {af : Array Edge} {g : Option (Nat × Bool)} {x y : Operand} {t e : TypeId} {n : Nat} {cs : Array Value} {kd : IntKind} {i : Int} {v : Value} (ht : P.underlying t = some (.array n e)) (he : P.plainKey e = true) (hs : (sizeOf e).run P w = .ok 1 w)
    (hx : a.eval x = .agg cs) (hy : a.eval y = .int kd i) (h0 : 0 ≤ i) (h1 : i < n) (hc : cs[i.toNat]? = some v) : (execOp a.eval ⟨dst, .index t x y, ty, pos, af, g⟩).run P w = .ok (.value v) w := by
  refine ex_index hx hy ?_
  have hn : 0 ≤ i ∧ i < (n : Int) := ⟨h0, h1⟩
  unfold Program.plainKey at he
  cases hu : P.underlying e with
  | none => simp [hu] at he
  | some d => cases d <;> simp [hu] at he <;> simp [Instr.index, run_underlying ht, asIntOf, hn, hs, part, isAgg, run_underlying hu, hc, go_sem]

def F2 (b ms : Nat) : Nat → Prop := fun k => k = b ∨ k = ms
section
variable {P : Program} {w0 : World} {a0 : Act} {b ms : Nat} {x : Obj} {M : World → Prop}
/-- ahead of the call, behind it, behind the store -/
def InvW (w0 : World) (b ms : Nat) (x : Obj) (M : World → Prop) (hM : ∀ {w w'}, M w → Touch (fun k => k = b) w w' → M w') : Inv Gr.grow [] :=
  Inv.mem (G := .grow) (dl := []) (fun n w => match n with | 0 => Ext w0 w | 1 => Touch (fun k => k = ms) w0 w ∧ M w | _ => Touch (F2 b ms) w0 w ∧ M w ∧ w.heap[b]? = some x)
    (fun {n w w'} h k => by
      have k : Ext w w' := k
      match n, h with
      | 0, h => exact Ext.trans h k
      | 1, h => exact ⟨h.1.trans k.touch, hM h.2 k.touch⟩
      | _ + 2, h => exact ⟨h.1.trans k.touch, hM h.2.1 k.touch, k.keep h.2.2⟩)
variable {hM : ∀ {w w'}, M w → Touch (fun k => k = b) w w' → M w'} {ops : Array Oper} {Φ : List (Pd (F2 b ms))} {anc : List (List Nat)} {i i1 i2 : Nat} {o : Oper} {k : List (Nat × Option Nat)} {v : Value}
theorem InvW.touch {p : Nat} {a : Act} {w : World} (h : (InvW w0 b ms x M hM).p p a w) (hp : p ≤ 1) : Touch (fun k => k = ms) w0 w := by
  match p, h with
  | 0, h => exact (show Ext w0 w from h).touch
  | 1, h => exact (show Touch (fun k => k = ms) w0 w ∧ M w from h).1
  | _ + 2, _ => omega
/-- a value, ahead of the store -/
theorem Hv (hs : [i1, i2].contains i = false) (hh : decide (hiPh anc [i1, i2] i ≤ 1) = true) (hg : o.guard = none)
    (h : ∀ a w, Touch (fun k => k = ms) w0 w → Know (F2 b ms) a0 Φ a w k → (execOp a.eval o).run P w = .ok (.value v) w) : Obl P (F2 b ms) (InvW w0 b ms x M hM) w0 a0 ops Φ anc [i1, i2] i o (.eq v) k :=
  .q hs fun a w p _ hp T hI kk => .val hg (h a w (InvW.touch hI (Nat.le_trans hp (of_decide_eq_true hh))) kk)
/-- a call that lays blocks at most -/
theorem Hc {f : FuncId} {args : Array Value} (hs : [i1, i2].contains i = false) (hh : decide (hiPh anc [i1, i2] i ≤ 1) = true) (hg : o.guard = none)
    (h : ∀ a w, Touch (fun k => k = ms) w0 w → Know (F2 b ms) a0 Φ a w k → (execOp a.eval o).run P w = .ok (.enter f args) w ∧ Calls P f args w fun e w' => e = .returned v ∧ Ext w w') : Obl P (F2 b ms) (InvW w0 b ms x M hM) w0 a0 ops Φ anc [i1, i2] i o (.eq v) k :=
  .q hs fun a w p _ hp T hI kk => by
    have ht := InvW.touch hI (Nat.le_trans hp (of_decide_eq_true hh))
    exact .plain hg (.call (h a w ht kk).1 (h a w ht kk).2 fun _ _ ⟨h1, h2⟩ => ⟨_, h1, h2, rfl⟩)
/-- the call that turns ms -/
theorem Hw {f : FuncId} {args : Array Value} (hh : hiPh anc [i1, i2] i1 = 0) (hg : o.guard = none)
    (h : ∀ a w, Ext w0 w → Know (F2 b ms) a0 Φ a w k → (execOp a.eval o).run P w = .ok (.enter f args) w ∧ Calls P f args w fun e w' => e = .returned v ∧ Touch (fun k => k = ms) w w' ∧ M w') : Obl P (F2 b ms) (InvW w0 b ms x M hM) w0 a0 ops Φ anc [i1, i2] i1 o (.eq v) k :=
  .s (by simp) fun a w p _ hp T hI kk => by
    rw [hh] at hp
    obtain rfl : p = 0 := Nat.eq_zero_of_le_zero hp
    have hE : Ext w0 w := hI
    exact .plain hg (.call (h a w hE kk).1 (h a w hE kk).2 fun e w' ⟨h1, h2, h3⟩ => ⟨v, h1, ⟨h2.mono (fun _ _ e => .inr e), hE.touch.trans h2, h3⟩, rfl⟩)
/-- the store into b -/
theorem Hs {j m : Nat} {t t' : TypeId} {cs vs cs' : List Value} {dst : Option Tmp} {ty : TypeId} {pos : String} {af : Array Edge} {X Y : Operand} (hh : (decide (hiPh anc [i1, i2] i2 = 1) && decide (loPh anc [i1, i2] i2 = 1)) = true) (hb : w0.heap[b]? = some (.cells cs.toArray t' (0, 0))) (hbm : b ≠ ms) (hs : ∀ w, (sizeOf t).run P w = .ok m w) (hv : v.cells.toList = vs) (hm : vs.length = m) (hne : m ≠ 0) (hj : j + m ≤ cs.length) (ho : (vs.all (·.oneCell')) = true) (hc : putCells cs j vs = cs') (hx : x = .cells cs'.toArray t' (0, 0))
    (h : ∀ a w, Touch (fun k => k = ms) w0 w → Know (F2 b ms) a0 Φ a w k → a.eval X = .pointer (some ⟨b, j, none⟩) ∧ a.eval Y = v) :
    Obl P (F2 b ms) (InvW w0 b ms x M hM) w0 a0 ops Φ anc [i1, i2] i2 ⟨dst, .store t X Y, ty, pos, af, none⟩ .any k :=
  .s (by simp) fun a w p hlo hp T hI kk => by
    simp only [Bool.and_eq_true, decide_eq_true_eq] at hh
    rw [hh.1] at hp; rw [hh.2] at hlo
    obtain rfl : p = 1 := Nat.le_antisymm hp hlo
    have hI : Touch (fun k => k = ms) w0 w ∧ M w := hI
    have hbw := hI.1.keep hb (fun e => hbm e)
    subst hc
    have ht := setB_turn (.cells (putCells cs j vs).toArray t' (0, 0)) hbw
    subst hx
    exact .plain rfl (.skip (ex_store (h a w hI.1 kk).1 (h a w hI.1 kk).2 (run_storeVar hbw (hs w) hv hm hne hj ho)) (by
      exact ⟨⟨ht.touch.mono (fun _ _ e => .inl e), (hI.1.mono fun _ _ e => .inr e).trans (ht.touch.mono fun _ _ e => .inl e), hM hI.2 ht.touch, ht.here⟩, trivial⟩))
theorem rt2 {Q : Exit → Act → World → Prop} {l : List Oper} {id : Nat} {draw : Bool} (hm : P.follows .mixedOrders = true) (n b ms i1 i2 : Nat) (x : Obj) (M : World → Prop) (hM : ∀ {w w'}, M w → Touch (fun k => k = b) w w' → M w') (Φ : List (Pd (F2 b ms))) (tbl : List (List (Nat × Option Nat))) (d0 : a0.defers = []) (z0 : a0.tmps.size = n)
    (hc : chk l.toArray tbl (mkAnc l.toArray) n = true) (hi : ((nodups [i1, i2]) && [i1, i2].all fun x => decide (x < l.length)) = true)
    (hO : Obls P (F2 b ms) (InvW w0 b ms x M hM) w0 a0 l.toArray Φ (mkAnc l.toArray) [i1, i2] 0 l Φ tbl)
    (next : ∀ a w, a.defers = [] → a.tmps.size = n → Touch (F2 b ms) w0 w → M w → w.heap[b]? = some x → Ends (F2 b ms) a w l Φ → (∀ t, (dsts l.toArray).contains t = false → a.eval (.tmp t) = a0.eval (.tmp t)) → Q .normal a w) :
    (Code.region id l.toArray draw).wp P Q a0 w0 :=
  region_rule n Φ tbl (mkAnc l.toArray) [i1, i2] z0 hm hc hi (Ext.refl _) rfl hO fun a w hd hz _ hI he hq => next a w (hd.trans d0) hz hI.1 hI.2.1 hI.2.2 he hq
end
end Go.Proofs.Yticodddigaiipaa
