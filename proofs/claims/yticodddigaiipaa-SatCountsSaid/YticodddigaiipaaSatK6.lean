/-
  The same rules in short forms, for printed walks.
-/
import Derived.Test.YticodddigaiipaaSatK5
set_option linter.unusedVariables false
set_option linter.unusedSectionVars false
set_option linter.unusedSimpArgs false
namespace Go.Proofs.Yticodddigaiipaa
open Go.RowKit

def NoF : Nat → Prop := fun _ => False

def mkAnc (ops : Array Oper) : List (List Nat) :=
  ops.toList.foldl (init := []) fun acc o =>
    acc ++ [(o.after.toList.foldl (init := []) fun s e => if Region.binds .any e then (e.on :: ((acc[e.on]?).getD [])) ++ s else s).eraseDups]

/-- Several frames at once. -/
theorem fr2 {a b c : Act} {D1 D2 : Nat → Bool} (h1 : ∀ t, D1 t = false → b.eval (.tmp t) = a.eval (.tmp t)) (h2 : ∀ t, D2 t = false → c.eval (.tmp t) = b.eval (.tmp t)) : ∀ t, (D1 t || D2 t) = false → c.eval (.tmp t) = a.eval (.tmp t) := fun t h => by
  rw [Bool.or_eq_false_iff] at h
  exact (h2 t h.2).trans (h1 t h.1)
theorem fr4 {a b c d e : Act} {D1 D2 D3 D4 : Nat → Bool} (h1 : ∀ t, D1 t = false → b.eval (.tmp t) = a.eval (.tmp t)) (h2 : ∀ t, D2 t = false → c.eval (.tmp t) = b.eval (.tmp t)) (h3 : ∀ t, D3 t = false → d.eval (.tmp t) = c.eval (.tmp t)) (h4 : ∀ t, D4 t = false → e.eval (.tmp t) = d.eval (.tmp t)) : ∀ t, ((D1 t || D2 t) || (D3 t || D4 t)) = false → e.eval (.tmp t) = a.eval (.tmp t) := fr2 (fr2 h1 h2) (fr2 h3 h4)

section
variable {P : Program} {w0 : World} {a0 : Act} {Q : Exit → Act → World → Prop}

section
variable {F : Nat → Prop} {G : Gr} {dl : List Nat} {I : Inv G dl} {ops : Array Oper} {Φ : List (Pd F)} {anc : List (List Nat)} {sp : List Nat} {i : Nat} {o : Oper} {φ : Pd F} {k : List (Nat × Option Nat)} {v : Value}
/-- A value, memory as it was. -/
theorem Ov (hs : sp.contains i = false) (hg : o.guard = none) (h : ∀ a w, Touch F w0 w → Know F a0 Φ a w k → (execOp a.eval o).run P w = .ok (.value v) w) : Obl P F I w0 a0 ops Φ anc sp i o (.eq v) k :=
  .q hs fun a w _ _ _ T _ k => .val hg (h a w T k)
theorem Oy {g d : Nat} {b : Bool} (hs : sp.contains i = false) (hg : o.guard = some (g, b)) (hd : (ops[g]?).bind (·.dst) = some d) (h : ∀ a w, Touch F w0 w → Know F a0 Φ a w k → a.eval (.tmp d) = .bool b ∧ (execOp a.eval o).run P w = .ok (.value v) w) :
    Obl P F I w0 a0 ops Φ anc sp i o (.eq v) k :=
  .q hs fun a w _ _ _ T _ k => .yes hg hd (h a w T k).1 (.pure (h a w T k).2)
theorem On {g d : Nat} {b : Bool} (hs : sp.contains i = false) (hg : o.guard = some (g, b)) (hd : (ops[g]?).bind (·.dst) = some d) (h : ∀ a w, Know F a0 Φ a w k → a.eval (.tmp d) = .bool (!b) ∨ a.eval (.tmp d) = undef) : Obl P F I w0 a0 ops Φ anc sp i o (.eq undef) k :=
  .q hs fun a w _ _ _ T _ k => by
    rcases h a w k with h | h
    · exact .no hg hd h ⟨Gr.refl _ _, rfl⟩
    · exact .nou hg hd h ⟨Gr.refl _ _, rfl⟩
/-- A call that lays blocks at most. -/
theorem Oc {f : FuncId} {args : Array Value} (hg : o.guard = none) {I : Inv Gr.grow dl} (h : ∀ a w, Touch F w0 w → Know F a0 Φ a w k → (execOp a.eval o).run P w = .ok (.enter f args) w ∧ Calls P f args w fun e w' => e = .returned v ∧ Ext w w') (hs : sp.contains i = false) :
    Obl P F I w0 a0 ops Φ anc sp i o (.eq v) k :=
  .q hs fun a w _ _ _ T _ k => .plain hg (.call (h a w T k).1 (h a w T k).2 fun _ _ ⟨h1, h2⟩ => ⟨_, h1, h2, rfl⟩)
end

/-- A region that lays blocks at most; what follows. -/
theorem rg {l : List Oper} {id : Nat} {draw : Bool} (hm : P.follows .mixedOrders = true) (n : Nat) (Φ : List (Pd NoF)) (tbl : List (List (Nat × Option Nat))) (d0 : a0.defers = []) (z0 : a0.tmps.size = n)
    (hc : chk l.toArray tbl (mkAnc l.toArray) n = true) (hO : Obls P NoF (Inv.none (G := .grow) (dl := [])) w0 a0 l.toArray Φ (mkAnc l.toArray) [] 0 l Φ tbl)
    (next : ∀ a w, a.defers = [] → a.tmps.size = n → Ext w0 w → Ends NoF a w l Φ → (∀ t, (dsts l.toArray).contains t = false → a.eval (.tmp t) = a0.eval (.tmp t)) → Q .normal a w) :
    (Code.region id l.toArray draw).wp P Q a0 w0 :=
  region_rule n Φ tbl (mkAnc l.toArray) [] z0 hm hc rfl trivial rfl hO fun a w hd hz ht _ he hq => next a w (hd.trans d0) hz ht.ext he hq
theorem rgs {l : List Oper} {id : Nat} {draw : Bool} {y : Code} (hm : P.follows .mixedOrders = true) (n : Nat) (Φ : List (Pd NoF)) (tbl : List (List (Nat × Option Nat))) (d0 : a0.defers = []) (z0 : a0.tmps.size = n)
    (hc : chk l.toArray tbl (mkAnc l.toArray) n = true) (hO : Obls P NoF (Inv.none (G := .grow) (dl := [])) w0 a0 l.toArray Φ (mkAnc l.toArray) [] 0 l Φ tbl)
    (next : ∀ a w, a.defers = [] → a.tmps.size = n → Ext w0 w → Ends NoF a w l Φ → (∀ t, (dsts l.toArray).contains t = false → a.eval (.tmp t) = a0.eval (.tmp t)) → y.wp P Q a w) :
    (Code.seq (Code.region id l.toArray draw) y).wp P Q a0 w0 :=
  wp_seq (rg hm n Φ tbl d0 z0 hc hO next)

/-- .. with one store behind all that reads or lays. -/
theorem rt {l : List Oper} {id : Nat} {draw : Bool} (hm : P.follows .mixedOrders = true) (n b i : Nat) (x : Obj) (Φ : List (Pd fun k => k = b)) (tbl : List (List (Nat × Option Nat))) (d0 : a0.defers = []) (z0 : a0.tmps.size = n)
    (hc : chk l.toArray tbl (mkAnc l.toArray) n = true) (hi : ((nodups [i]) && [i].all fun x => decide (x < l.length)) = true)
    (hO : Obls P (fun k => k = b) (Inv.mem (G := .grow) (dl := []) (fun n w => match n with | 0 => Ext w0 w | _ => Turn b x w0 w) (fun {n w w'} h k => by cases n with | zero => exact Ext.trans h k | succ n => exact Turn.ext h k)) w0 a0 l.toArray Φ (mkAnc l.toArray) [i] 0 l Φ tbl)
    (next : ∀ a w, a.defers = [] → a.tmps.size = n → Turn b x w0 w → Ends (fun k => k = b) a w l Φ → (∀ t, (dsts l.toArray).contains t = false → a.eval (.tmp t) = a0.eval (.tmp t)) → Q .normal a w) :
    (Code.region id l.toArray draw).wp P Q a0 w0 :=
  region_rule n Φ tbl (mkAnc l.toArray) [i] z0 hm hc hi (Ext.refl _) rfl hO fun a w hd hz _ hI he hq => next a w (hd.trans d0) hz hI he hq
end

/-- What a region with a store asks of what comes ahead of the store. -/
theorem Oh {P : Program} {w0 : World} {a0 : Act} {b : Nat} {x : Obj} {ops : Array Oper} {Φ : List (Pd fun k => k = b)} {anc : List (List Nat)} {i s : Nat} {o : Oper} {k : List (Nat × Option Nat)} {v : Value} (hs : [s].contains i = false) (hh : hiPh anc [s] i = 0) (hg : o.guard = none)
    (h : ∀ a w, Ext w0 w → Know (fun k => k = b) a0 Φ a w k → (execOp a.eval o).run P w = .ok (.value v) w) :
    Obl P (fun k => k = b) (Inv.mem (G := .grow) (dl := []) (fun n w => match n with | 0 => Ext w0 w | _ => Turn b x w0 w) (fun {n w w'} h k => by cases n with | zero => exact Ext.trans h k | succ n => exact Turn.ext h k)) w0 a0 ops Φ anc [s] i o (.eq v) k :=
  .q hs fun a w p _ hp T hI k => by
    rw [hh] at hp
    obtain rfl : p = 0 := Nat.eq_zero_of_le_zero hp
    exact .val hg (h a w hI k)
/-- The store itself. -/
theorem Ot {P : Program} {w0 : World} {a0 : Act} {b j m : Nat} {t t' : TypeId} {cs vs cs' : List Value} {v : Value} {ops : Array Oper} {Φ : List (Pd fun k => k = b)} {anc : List (List Nat)} {i : Nat} {dst : Option Tmp} {ty : TypeId} {pos : String} {af : Array Edge} {x y : Operand} {k : List (Nat × Option Nat)}
    (hh : hiPh anc [i] i = 0) (hb : w0.heap[b]? = some (.cells cs.toArray t' (0, 0))) (hs : ∀ w, (sizeOf t).run P w = .ok m w) (hv : v.cells.toList = vs) (hm : vs.length = m) (hne : m ≠ 0) (hj : j + m ≤ cs.length) (ho : (vs.all (·.oneCell')) = true) (hc : putCells cs j vs = cs')
    (h : ∀ a w, Ext w0 w → Know (fun k => k = b) a0 Φ a w k → a.eval x = .pointer (some ⟨b, j, none⟩) ∧ a.eval y = v) :
    Obl P (fun k => k = b) (Inv.mem (G := .grow) (dl := []) (fun n w => match n with | 0 => Ext w0 w | _ => Turn b (.cells cs'.toArray t' (0, 0)) w0 w) (fun {n w w'} h k => by cases n with | zero => exact Ext.trans h k | succ n => exact Turn.ext h k)) w0 a0 ops Φ anc [i] i ⟨dst, .store t x y, ty, pos, af, none⟩ .any k :=
  .s (by simp) fun a w p _ hp T hI kk => by
    rw [hh] at hp
    obtain rfl : p = 0 := Nat.eq_zero_of_le_zero hp
    exact .plain rfl (DoesX.tail (h a w hI kk).1 (h a w hI kk).2 hI hb (hs w) hv hm hne hj ho hc)

section
variable {P : Program} {ops : Array Oper} {Q : Exit → Act → World → Prop} {a : Act} {w : World} {rest : List Oper} {o : Oper} {v : Value} {n : Nat}
theorem sp (hn : a.tmps.size = n) (hd : ((o.dst.map fun d => decide (d < n)).getD true) = true) (hg : o.guard = none) (h : (execOp a.eval o).run P w = .ok (.value v) w)
    (next : ∀ a', Put a o.dst v a' → a'.tmps.size = n → wpList P ops Q rest a' w) : wpList P ops Q (o :: rest) a w := seq_pure hn hd hg h fun a' u => next a' u (u.size.trans hn)
theorem sy {g d : Nat} {b : Bool} (hn : a.tmps.size = n) (hd : ((o.dst.map fun d => decide (d < n)).getD true) = true) (hg : o.guard = some (g, b)) (hgd : (ops[g]?).bind (·.dst) = some d) (hv : a.eval (.tmp d) = .bool b)
    (h : (execOp a.eval o).run P w = .ok (.value v) w) (next : ∀ a', Put a o.dst v a' → a'.tmps.size = n → wpList P ops Q rest a' w) : wpList P ops Q (o :: rest) a w := seq_yes hn hd hg hgd hv h fun a' u => next a' u (u.size.trans hn)
theorem sn {g d : Nat} {b : Bool} (hn : a.tmps.size = n) (hd : ((o.dst.map fun d => decide (d < n)).getD true) = true) (hg : o.guard = some (g, b)) (hgd : (ops[g]?).bind (·.dst) = some d) (hv : a.eval (.tmp d) = .bool (!b) ∨ a.eval (.tmp d) = undef)
    (next : ∀ a', Put a o.dst undef a' → a'.tmps.size = n → wpList P ops Q rest a' w) : wpList P ops Q (o :: rest) a w := by
  rcases hv with hv | hv
  · exact seq_no hn hd hg hgd hv fun a' u => next a' u (u.size.trans hn)
  · exact seq_nou hn hd hg hgd hv fun a' u => next a' u (u.size.trans hn)
theorem sc (hn : a.tmps.size = n) (hd : ((o.dst.map fun d => decide (d < n)).getD true) = true) (hg : o.guard = none) {f : FuncId} {args : Array Value} (h : (execOp a.eval o).run P w = .ok (.enter f args) w) {R : Ending → World → Prop} (hc : Calls P f args w R)
    (next : ∀ e w', R e w' → ∃ v, e = .returned v ∧ ∀ a', Put a o.dst v a' → a'.tmps.size = n → wpList P ops Q rest a' w') : wpList P ops Q (o :: rest) a w :=
  seq_call hn hd hg h hc fun e w' hr => by obtain ⟨v, he, hk⟩ := next e w' hr; exact ⟨v, he, fun a' u => hk a' u (u.size.trans hn)⟩
theorem scy {g d : Nat} {b : Bool} (hn : a.tmps.size = n) (hd : ((o.dst.map fun d => decide (d < n)).getD true) = true) (hg : o.guard = some (g, b)) (hgd : (ops[g]?).bind (·.dst) = some d) (hv : a.eval (.tmp d) = .bool b) {f : FuncId} {args : Array Value} (h : (execOp a.eval o).run P w = .ok (.enter f args) w) {R : Ending → World → Prop} (hc : Calls P f args w R)
    (next : ∀ e w', R e w' → ∃ v, e = .returned v ∧ ∀ a', Put a o.dst v a' → a'.tmps.size = n → wpList P ops Q rest a' w') : wpList P ops Q (o :: rest) a w :=
  seq_call_yes hn hd hg hgd hv h hc fun e w' hr => by obtain ⟨v, he, hk⟩ := next e w' hr; exact ⟨v, he, fun a' u => hk a' u (u.size.trans hn)⟩
/-- A call that lays blocks at most. -/
theorem scx (hn : a.tmps.size = n) (hd : ((o.dst.map fun d => decide (d < n)).getD true) = true) (hg : o.guard = none) {f : FuncId} {args : Array Value} (h : (execOp a.eval o).run P w = .ok (.enter f args) w) (hc : Calls P f args w fun e w' => e = .returned v ∧ Ext w w')
    (next : ∀ w' a', Ext w w' → Put a o.dst v a' → a'.tmps.size = n → wpList P ops Q rest a' w') : wpList P ops Q (o :: rest) a w :=
  seq_call hn hd hg h hc fun e w' ⟨he, hx⟩ => ⟨v, he, fun a' u => next w' a' hx u (u.size.trans hn)⟩
theorem scyx {g d : Nat} {b : Bool} (hn : a.tmps.size = n) (hd : ((o.dst.map fun d => decide (d < n)).getD true) = true) (hg : o.guard = some (g, b)) (hgd : (ops[g]?).bind (·.dst) = some d) (hv : a.eval (.tmp d) = .bool b) {f : FuncId} {args : Array Value} (h : (execOp a.eval o).run P w = .ok (.enter f args) w) (hc : Calls P f args w fun e w' => e = .returned v ∧ Ext w w')
    (next : ∀ w' a', Ext w w' → Put a o.dst v a' → a'.tmps.size = n → wpList P ops Q rest a' w') : wpList P ops Q (o :: rest) a w :=
  seq_call_yes hn hd hg hgd hv h hc fun e w' ⟨he, hx⟩ => ⟨v, he, fun a' u => next w' a' hx u (u.size.trans hn)⟩
theorem snew (hn : a.tmps.size = n) (hd : ((o.dst.map fun d => decide (d < n)).getD true) = true) (hg : o.guard = none) {x : Obj} {mk : Nat → Value} (h : (execOp a.eval o).run P w = .ok (.value (mk w.heap.size)) (w.alloc x))
    (next : ∀ b w' a', Ext w w' → w.heap.size ≤ b → w'.heap[b]? = some x → Put a o.dst (mk b) a' → a'.tmps.size = n → wpList P ops Q rest a' w') : wpList P ops Q (o :: rest) a w :=
  seq_new hn hd hg h fun b w' a' h1 h2 h3 u => next b w' a' h1 h2 h3 u (u.size.trans hn)
/-- A new variable. -/
theorem sbox {dst : Option Tmp} {ty : TypeId} {pos : String} {af : Array Edge} {x : Operand} {t : TypeId} (hn : a.tmps.size = n) (hd : ((dst.map fun d => decide (d < n)).getD true) = true) (hx : a.eval x = v)
    (next : ∀ b w' a', Ext w w' → w.heap.size ≤ b → w'.heap[b]? = some (.cells v.cells t) → Put a dst (.pointer (some ⟨b, 0, none⟩)) a' → a'.tmps.size = n → wpList P ops Q rest a' w') : wpList P ops Q (⟨dst, .box t x, ty, pos, af, none⟩ :: rest) a w :=
  snew (mk := fun b => .pointer (some ⟨b, 0, none⟩)) hn hd rfl (ex_box hx) next
theorem salloc {dst : Option Tmp} {ty : TypeId} {pos : String} {af : Array Edge} {t : TypeId} (hn : a.tmps.size = n) (hd : ((dst.map fun d => decide (d < n)).getD true) = true) (hz : (zeroValue t).run P w = .ok v w)
    (next : ∀ b w' a', Ext w w' → w.heap.size ≤ b → w'.heap[b]? = some (.cells v.cells t) → Put a dst (.pointer (some ⟨b, 0, none⟩)) a' → a'.tmps.size = n → wpList P ops Q rest a' w') : wpList P ops Q (⟨dst, .alloc t, ty, pos, af, none⟩ :: rest) a w :=
  snew (mk := fun b => .pointer (some ⟨b, 0, none⟩)) hn hd rfl (ex_alloc hz) next
theorem sstore {dst : Option Tmp} {ty : TypeId} {pos : String} {af : Array Edge} {x y : Operand} {t t' : TypeId} {b j m : Nat} {cs vs cs' : List Value}
    (hn : a.tmps.size = n) (hd : ((dst.map fun d => decide (d < n)).getD true) = true) (hx : a.eval x = .pointer (some ⟨b, j, none⟩)) (hy : a.eval y = v)
    (h : w.heap[b]? = some (.cells cs.toArray t' (0, 0))) (hs : (sizeOf t).run P w = .ok m w) (hv : v.cells.toList = vs) (hm : vs.length = m) (hne : m ≠ 0) (hj : j + m ≤ cs.length) (ho : (vs.all (·.oneCell')) = true) (hc : putCells cs j vs = cs')
    (next : ∀ w' a', Turn b (.cells cs'.toArray t' (0, 0)) w w' → Put a dst undef a' → a'.tmps.size = n → wpList P ops Q rest a' w') : wpList P ops Q (⟨dst, .store t x y, ty, pos, af, none⟩ :: rest) a w :=
  seq_store hn hd hx hy h hs hv hm hne hj ho hc fun w' a' t u => next w' a' t u (u.size.trans hn)
end

/-! ### Guards that aren't known: the slot holds the value, or nothing -/
section
variable {P : Program} {w0 : World} {a0 : Act}
variable {F : Nat → Prop} {G : Gr} {dl : List Nat} {I : Inv G dl} {ops : Array Oper} {Φ : List (Pd F)} {anc : List (List Nat)} {sp : List Nat} {i : Nat} {o : Oper} {φ : Pd F} {k : List (Nat × Option Nat)} {v : Value}
theorem bool_not {b c : Bool} (h : ¬ c = b) : c = !b := by cases b <;> cases c <;> simp_all
theorem Og {g d : Nat} {b c : Bool} (hs : sp.contains i = false) (hg : o.guard = some (g, b)) (hd : (ops[g]?).bind (·.dst) = some d)
    (h : ∀ a w, Touch F w0 w → Know F a0 Φ a w k → a.eval (.tmp d) = .bool c ∧ (c = b → (execOp a.eval o).run P w = .ok (.value v) w)) : Obl P F I w0 a0 ops Φ anc sp i o (.eq (if c = b then v else undef)) k :=
  .q hs fun a w _ _ _ T _ k => by
    obtain ⟨h1, h2⟩ := h a w T k
    by_cases hc : c = b
    · rw [if_pos hc]; exact .yes hg hd (h1.trans (by rw [hc])) (.pure (h2 hc))
    · rw [if_neg hc]; exact .no hg hd (h1.trans (by rw [bool_not hc])) ⟨Gr.refl _ _, rfl⟩
theorem Ogc {g d : Nat} {b c : Bool} {f : FuncId} {args : Array Value} (hg : o.guard = some (g, b)) (hd : (ops[g]?).bind (·.dst) = some d) {I : Inv Gr.grow dl}
    (h : ∀ a w, Touch F w0 w → Know F a0 Φ a w k → a.eval (.tmp d) = .bool c ∧ (c = b → (execOp a.eval o).run P w = .ok (.enter f args) w ∧ Calls P f args w fun e w' => e = .returned v ∧ Ext w w')) (hs : sp.contains i = false) : Obl P F I w0 a0 ops Φ anc sp i o (.eq (if c = b then v else undef)) k :=
  .q hs fun a w _ _ _ T _ k => by
    obtain ⟨h1, h2⟩ := h a w T k
    by_cases hc : c = b
    · rw [if_pos hc]; exact .yes hg hd (h1.trans (by rw [hc])) (.call (h2 hc).1 (h2 hc).2 fun _ _ ⟨h1, h2⟩ => ⟨_, h1, h2, rfl⟩)
    · rw [if_neg hc]; exact .no hg hd (h1.trans (by rw [bool_not hc])) ⟨Gr.refl _ _, rfl⟩
end
section
variable {P : Program} {ops : Array Oper} {Q : Exit → Act → World → Prop} {a : Act} {w : World} {rest : List Oper} {o : Oper} {v : Value} {n : Nat}
theorem sg {g d : Nat} {b c : Bool} (hn : a.tmps.size = n) (hd : ((o.dst.map fun d => decide (d < n)).getD true) = true) (hg : o.guard = some (g, b)) (hgd : (ops[g]?).bind (·.dst) = some d) (hv : a.eval (.tmp d) = .bool c)
    (h : c = b → (execOp a.eval o).run P w = .ok (.value v) w) (next : ∀ a', Put a o.dst (if c = b then v else undef) a' → a'.tmps.size = n → wpList P ops Q rest a' w) : wpList P ops Q (o :: rest) a w := by
  by_cases hc : c = b
  · rw [if_pos hc] at next; exact sy hn hd hg hgd (hv.trans (by rw [hc])) (h hc) next
  · rw [if_neg hc] at next; exact sn hn hd hg hgd (.inl (hv.trans (by rw [bool_not hc]))) next
theorem scg {g d : Nat} {b c : Bool} (hn : a.tmps.size = n) (hd : ((o.dst.map fun d => decide (d < n)).getD true) = true) (hg : o.guard = some (g, b)) (hgd : (ops[g]?).bind (·.dst) = some d) (hv : a.eval (.tmp d) = .bool c) {f : FuncId} {args : Array Value}
    (h : c = b → (execOp a.eval o).run P w = .ok (.enter f args) w) (hc : c = b → Calls P f args w fun e w' => e = .returned v ∧ Ext w w')
    (next : ∀ w' a', Ext w w' → Put a o.dst (if c = b then v else undef) a' → a'.tmps.size = n → wpList P ops Q rest a' w') : wpList P ops Q (o :: rest) a w := by
  by_cases hcb : c = b
  · rw [if_pos hcb] at next; exact scyx hn hd hg hgd (hv.trans (by rw [hcb])) (h hcb) (hc hcb) next
  · rw [if_neg hcb] at next; exact sn hn hd hg hgd (.inl (hv.trans (by rw [bool_not hcb]))) fun a' => next w a' (Ext.refl _)
end
section
variable {P : Program} {a : Act} {w : World} {dst : Option Tmp} {ty : TypeId} {pos : String} {af : Array Edge} {g : Option (Nat × Bool)} {x y z : Operand} {b c : Bool}
theorem ex_pick_and (hc : a.eval z = .bool c) (hx : a.eval x = if c = true then .bool b else undef) (hy : a.eval y = .bool false) : (execOp a.eval ⟨dst, .pick z x y, ty, pos, af, g⟩).run P w = .ok (.value (.bool (c && b))) w := by
  cases c
  · exact ex_pick_f hc hy
  · exact ex_pick_t hc hx
theorem ex_pick_or (hc : a.eval z = .bool c) (hx : a.eval x = .bool true) (hy : a.eval y = if c = false then .bool b else undef) : (execOp a.eval ⟨dst, .pick z x y, ty, pos, af, g⟩).run P w = .ok (.value (.bool (c || b))) w := by
  cases c
  · exact ex_pick_f hc hy
  · exact ex_pick_t hc hx
end

/-! ### A guard that stands under a guard -/
theorem band_l {b c : Bool} (h : (b && c) = true) : b = true := by cases b <;> simp_all
theorem opt_in {c b want : Bool} {x y : Value} (hc : c = true) : (if (c && (b == want)) = true then x else y) = if b = want then x else y := by subst hc; cases b <;> cases want <;> rfl
section
variable {P : Program} {w0 : World} {a0 : Act}
variable {F : Nat → Prop} {G : Gr} {dl : List Nat} {I : Inv G dl} {ops : Array Oper} {Φ : List (Pd F)} {anc : List (List Nat)} {sp : List Nat} {i : Nat} {o : Oper} {φ : Pd F} {k : List (Nat × Option Nat)} {v : Value}
theorem Og2 {g d : Nat} {b c1 c2 : Bool} (hs : sp.contains i = false) (hg : o.guard = some (g, b)) (hd : (ops[g]?).bind (·.dst) = some d)
    (h : ∀ a w, Touch F w0 w → Know F a0 Φ a w k → a.eval (.tmp d) = (if c1 = true then .bool c2 else undef) ∧ ((c1 && (c2 == b)) = true → (execOp a.eval o).run P w = .ok (.value v) w)) :
    Obl P F I w0 a0 ops Φ anc sp i o (.eq (if (c1 && (c2 == b)) = true then v else undef)) k :=
  .q hs fun a w _ _ _ T _ k => by
    obtain ⟨h1, h2⟩ := h a w T k
    by_cases hc : c1 = true
    · rw [if_pos hc] at h1
      by_cases hb : c2 = b
      · have hq : (c1 && (c2 == b)) = true := by rw [hc, hb]; simp
        rw [if_pos hq]; exact .yes hg hd (h1.trans (by rw [hb])) (.pure (h2 hq))
      · have hq : ¬ (c1 && (c2 == b)) = true := by rw [hc]; simpa using hb
        rw [if_neg hq]; exact .no hg hd (h1.trans (by rw [bool_not hb])) ⟨Gr.refl _ _, rfl⟩
    · have hq : ¬ (c1 && (c2 == b)) = true := fun e => hc (band_l e)
      rw [if_neg hc] at h1
      rw [if_neg hq]; exact .nou hg hd h1 ⟨Gr.refl _ _, rfl⟩
end
section
variable {P : Program} {ops : Array Oper} {Q : Exit → Act → World → Prop} {a : Act} {w : World} {rest : List Oper} {o : Oper} {v : Value} {n : Nat}
end
end Go.Proofs.Yticodddigaiipaa
