/-
  What each kind of operation does, said of its operands' values.
-/
import Derived.Test.YticodddigaiipaaSatK1
import Derived.WalkKit
import Derived.Laws.Slices
import Derived.Laws.Cells
import Derived.Laws.Small
import Derived.Laws.Pointers
import Derived.Laws.Entries
set_option linter.unusedVariables false
set_option linter.unusedSectionVars false
set_option linter.unusedSimpArgs false
namespace Go.Proofs.Yticodddigaiipaa
open Go.RowKit

theorem Gr.refl (G : Gr) (w : World) : G.r w w := G.drawn w w.drawn

section
variable {P : Program} {F : Nat → Prop} {G : Gr} {dl : List Nat} {I : Inv G dl} {w0 : World} {a0 : Act} {ops : Array Oper} {Φ : List (Pd F)} {anc : List (List Nat)} {sp : List Nat} {i : Nat} {o : Oper} {φ : Pd F} {k : List (Nat × Option Nat)}

theorem Obl.q (hs : sp.contains i = false)
    (h : ∀ (a : Act) (w : World) (p : Nat), loPh anc sp i ≤ p → p ≤ hiPh anc sp i → Touch F w0 w → I.p p a w → Know F a0 Φ a w k → Does P ops o a w (fun v w' => G.r w w' ∧ φ.p v w')) :
    Obl P F I w0 a0 ops Φ anc sp i o φ k := by
  intro a w p h1 h2 h3 h4 h5
  rw [hs]
  exact h a w p h1 h2 h3 h4 h5

theorem Obl.s (hs : sp.contains i = true)
    (h : ∀ (a : Act) (w : World) (p : Nat), loPh anc sp i ≤ p → p ≤ hiPh anc sp i → Touch F w0 w → I.p p a w → Know F a0 Φ a w k → Does P ops o a w (fun v w' => (Touch F w w' ∧ I.p (p + 1) (a.put o.dst v) w') ∧ φ.p v w')) :
    Obl P F I w0 a0 ops Φ anc sp i o φ k := by
  intro a w p h1 h2 h3 h4 h5
  rw [hs]
  exact h a w p h1 h2 h3 h4 h5
end

section
variable {P : Program} {ops : Array Oper} {a : Act} {w w' : World} {K : Value → World → Prop} {v : Value}

theorem DoesX.val {o : Oper} (h : (execOp a.eval o).run P w = .ok (.value v) w') (hK : K v w') : DoesX P o a w K := by
  unfold DoesX Oper.wp; rw [h]; exact ⟨v, rfl, hK⟩
theorem DoesX.skip {o : Oper} (h : (execOp a.eval o).run P w = .ok .skip w') (hK : K undef w') : DoesX P o a w K := by
  unfold DoesX Oper.wp; rw [h]; exact ⟨undef, rfl, hK⟩
theorem DoesX.call {o : Oper} {f : FuncId} {args : Array Value} (h : (execOp a.eval o).run P w = .ok (.enter f args) w') {R : Ending → World → Prop} (hc : Calls P f args w' R)
    (hR : ∀ e w'', R e w'' → ∃ v, e = .returned v ∧ K v w'') : DoesX P o a w K := by
  unfold DoesX Oper.wp; rw [h]
  exact hc.mono fun e w'' hr => by
    obtain ⟨v, rfl, hK⟩ := hR e w'' hr
    exact ⟨v, rfl, hK⟩

theorem Does.plain {o : Oper} (hg : o.guard = none) (h : DoesX P o a w K) : Does P ops o a w K := by
  unfold Does; rw [if_pos (by simp [Region.wanted, hg])]; exact h
theorem eval_bool {d : Nat} {b : Bool} (h : a.eval (.tmp d) = .bool b) : a.tmps[d]? = some (.bool b) := by
  have h' : (a.tmps[d]?).getD undef = .bool b := by simpa [Act.eval] using h
  cases ht : a.tmps[d]? with
  | none => rw [ht] at h'; cases h'
  | some x => rw [ht] at h'; exact congrArg some h'
theorem yields_of {g d : Nat} {b : Bool} (hd : (ops[g]?).bind (·.dst) = some d) (h : a.eval (.tmp d) = .bool b) : yielded ops a.tmps g = some b := by
  unfold yielded; rw [hd]; simp only [Option.bind_some]; rw [eval_bool h]
theorem Does.yes {o : Oper} {g d : Nat} {b : Bool} (hg : o.guard = some (g, b)) (hd : (ops[g]?).bind (·.dst) = some d) (hv : a.eval (.tmp d) = .bool b) (h : DoesX P o a w K) : Does P ops o a w K := by
  unfold Does; rw [if_pos (by simp [Region.wanted, hg, yields_of hd hv])]; exact h
theorem Does.no {o : Oper} {g d : Nat} {b : Bool} (hg : o.guard = some (g, b)) (hd : (ops[g]?).bind (·.dst) = some d) (hv : a.eval (.tmp d) = .bool (!b)) (h : K undef w) : Does P ops o a w K := by
  unfold Does; rw [if_neg (by simp [Region.wanted, hg, yields_of hd hv])]; exact h

/-- A value, memory as it was. -/
theorem Does.val {F : Nat → Prop} {G : Gr} {o : Oper} (hg : o.guard = none) (h : (execOp a.eval o).run P w = .ok (.value v) w) : Does P ops o a w (fun v' w' => G.r w w' ∧ (Pd.eq (F := F) v).p v' w') :=
  .plain hg (.val h ⟨G.refl w, rfl⟩)
theorem DoesX.pure {F : Nat → Prop} {G : Gr} {o : Oper} (h : (execOp a.eval o).run P w = .ok (.value v) w) : DoesX P o a w (fun v' w' => G.r w w' ∧ (Pd.eq (F := F) v).p v' w') :=
  .val h ⟨G.refl w, rfl⟩
end

section
variable {P : Program} {a : Act} {w w' : World} {dst : Option Tmp} {ty : TypeId} {pos : String} {af : Array Edge} {g : Option (Nat × Bool)} {x y : Operand} {v vx vy : Value}

theorem ex_move (hx : a.eval x = v) : (execOp a.eval ⟨dst, .move x, ty, pos, af, g⟩).run P w = .ok (.value v) w := by
  simp [execOp, hx]
theorem ex_assign (hx : a.eval x = v) : (execOp a.eval ⟨dst, .assign x, ty, pos, af, g⟩).run P w = .ok (.value v) w := by
  simp [execOp, hx]
theorem ex_pick_t {c : Operand} (hc : a.eval c = .bool true) (hx : a.eval x = v) : (execOp a.eval ⟨dst, .pick c x y, ty, pos, af, g⟩).run P w = .ok (.value v) w := by
  simp [execOp, hc, hx, asBool]
theorem ex_pick_f {c : Operand} (hc : a.eval c = .bool false) (hy : a.eval y = v) : (execOp a.eval ⟨dst, .pick c x y, ty, pos, af, g⟩).run P w = .ok (.value v) w := by
  simp [execOp, hc, hy, asBool]
theorem ex_nilCheck {ad : Addr} (hx : a.eval x = .pointer (some ad)) : (execOp a.eval ⟨dst, .nilCheck x, ty, pos, af, g⟩).run P w = .ok (.value (.pointer (some ad))) w := by
  simp [execOp, hx]
theorem ex_binOp {op : BinOp} {t yt : TypeId} (hx : a.eval x = vx) (hy : a.eval y = vy) (hr : (do eqGuard op t x y vx vy; binOp op t vx vy : Sem Value).run P w = .ok v w') :
    (execOp a.eval ⟨dst, .binOp op t x y yt, ty, pos, af, g⟩).run P w = .ok (.value v) w' := by
  simp only [execOp, hx, hy, Sem.run_bind, hr, Result.andThen_ok, Sem.run_pure]
theorem guard_int {op : BinOp} {t : TypeId} {k k' : IntKind} {m n : Int} {R : Sem Value} : (do eqGuard op t x y (.int k m) (.int k' n); R : Sem Value).run P w = R.run P w := by
  cases op <;> simp [eqGuard]
theorem guard_bool {op : BinOp} {t : TypeId} {m n : Bool} {R : Sem Value} : (do eqGuard op t x y (.bool m) (.bool n); R : Sem Value).run P w = R.run P w := by
  cases op <;> simp [eqGuard]
theorem guard_ptr {op : BinOp} {t : TypeId} {m n : Option Addr} {R : Sem Value} : (do eqGuard op t x y (.pointer m) (.pointer n); R : Sem Value).run P w = R.run P w := by
  cases op <;> simp [eqGuard]

section ints
variable {t yt : TypeId} {k : IntKind} {m n : Int}
theorem ex_add (hx : a.eval x = .int k m) (hy : a.eval y = .int k n) : (execOp a.eval ⟨dst, .binOp .add t x y yt, ty, pos, af, g⟩).run P w = .ok (.value (.int k (k.wrap (m + n)))) w :=
  ex_binOp hx hy (by rw [guard_int]; simp [binOp, Op.intArith])
theorem ex_sub (hx : a.eval x = .int k m) (hy : a.eval y = .int k n) : (execOp a.eval ⟨dst, .binOp .sub t x y yt, ty, pos, af, g⟩).run P w = .ok (.value (.int k (k.wrap (m - n)))) w :=
  ex_binOp hx hy (by rw [guard_int]; simp [binOp, Op.intArith])
theorem ex_mul (hx : a.eval x = .int k m) (hy : a.eval y = .int k n) : (execOp a.eval ⟨dst, .binOp .mul t x y yt, ty, pos, af, g⟩).run P w = .ok (.value (.int k (k.wrap (m * n)))) w :=
  ex_binOp hx hy (by rw [guard_int]; simp [binOp, Op.intArith])
theorem ex_eql (hx : a.eval x = .int k m) (hy : a.eval y = .int k n) : (execOp a.eval ⟨dst, .binOp .eql t x y yt, ty, pos, af, g⟩).run P w = .ok (.value (.bool (decide (m = n)))) w :=
  ex_binOp hx hy (by rw [guard_int]; simp [binOp, Op.intCmp]; rfl)
theorem ex_neq (hx : a.eval x = .int k m) (hy : a.eval y = .int k n) : (execOp a.eval ⟨dst, .binOp .neq t x y yt, ty, pos, af, g⟩).run P w = .ok (.value (.bool (decide (m ≠ n)))) w :=
  ex_binOp hx hy (by rw [guard_int]; simp [binOp, Op.intCmp]; rw [bne, Bool.eq_iff_iff]; simp)
theorem ex_lss (hx : a.eval x = .int k m) (hy : a.eval y = .int k n) : (execOp a.eval ⟨dst, .binOp .lss t x y yt, ty, pos, af, g⟩).run P w = .ok (.value (.bool (decide (m < n)))) w :=
  ex_binOp hx hy (by rw [guard_int]; simp [binOp, Op.intCmp])
theorem ex_leq (hx : a.eval x = .int k m) (hy : a.eval y = .int k n) : (execOp a.eval ⟨dst, .binOp .leq t x y yt, ty, pos, af, g⟩).run P w = .ok (.value (.bool (decide (m ≤ n)))) w :=
  ex_binOp hx hy (by rw [guard_int]; simp [binOp, Op.intCmp])
theorem ex_gtr (hx : a.eval x = .int k m) (hy : a.eval y = .int k n) : (execOp a.eval ⟨dst, .binOp .gtr t x y yt, ty, pos, af, g⟩).run P w = .ok (.value (.bool (decide (n < m)))) w :=
  ex_binOp hx hy (by rw [guard_int]; simp [binOp, Op.intCmp])
theorem ex_geq (hx : a.eval x = .int k m) (hy : a.eval y = .int k n) : (execOp a.eval ⟨dst, .binOp .geq t x y yt, ty, pos, af, g⟩).run P w = .ok (.value (.bool (decide (n ≤ m)))) w :=
  ex_binOp hx hy (by rw [guard_int]; simp [binOp, Op.intCmp])
end ints

theorem ex_load {t : TypeId} {ad : Addr} (hx : a.eval x = .pointer (some ad)) (hA : (isAgg t).run P w = .ok false w) (hc : w.cell? ad = some v) :
    (execOp a.eval ⟨dst, .load t x, ty, pos, af, g⟩).run P w = .ok (.value v) w := by
  simp [execOp, hx, Instr.loadAt, Instr.sureAddr, loadVar, hA, hc]
theorem ex_loadAgg {t : TypeId} {ad : Addr} {cs : List Value} (hx : a.eval x = .pointer (some ad)) (hA : (isAgg t).run P w = .ok true w) (hS : (sizeOf t).run P w = .ok cs.length w) (hc : ∀ j v, cs[j]? = some v → w.cell? (ad.add j) = some v) :
    (execOp a.eval ⟨dst, .load t x, ty, pos, af, g⟩).run P w = .ok (.value (.agg cs.toArray)) w := by
  simp [execOp, hx, Instr.loadAt, Instr.sureAddr, loadVar, hA, hS, run_loadCells_list w ad cs hc]
theorem ex_extract {vs : Array Value} {n : Nat} (hx : a.eval x = .tuple vs) (hv : vs[n]? = some v) : (execOp a.eval ⟨dst, .extract x n, ty, pos, af, g⟩).run P w = .ok (.value v) w := by
  simp [execOp, hx, Instr.extract, hv]
theorem ex_fieldAddr {t : TypeId} {f : Nat} (hx : a.eval x = vx) (hr : (Instr.fieldAt t vx f).run P w = .ok v w) : (execOp a.eval ⟨dst, .fieldAddr t x f, ty, pos, af, g⟩).run P w = .ok (.value v) w := by
  simp [execOp, hx, hr]
theorem ex_indexAddr {t : TypeId} (hx : a.eval x = vx) (hy : a.eval y = vy) (hr : (Instr.indexAt t vx vy).run P w = .ok v w) : (execOp a.eval ⟨dst, .indexAddr t x y, ty, pos, af, g⟩).run P w = .ok (.value v) w := by
  simp [execOp, hx, hy, hr]
theorem ex_index {t : TypeId} (hx : a.eval x = vx) (hy : a.eval y = vy) (hr : (Instr.index t vx vy).run P w = .ok v w) : (execOp a.eval ⟨dst, .index t x y, ty, pos, af, g⟩).run P w = .ok (.value v) w := by
  simp [execOp, hx, hy, hr]
theorem ex_unOp {op : UnOp} {t : TypeId} (hx : a.eval x = vx) (hr : (Op.unary op vx).run P w = .ok v w) : (execOp a.eval ⟨dst, .unOp op t x, ty, pos, af, g⟩).run P w = .ok (.value v) w := by
  simp [execOp, hx, hr]
theorem ex_convert {s t : TypeId} (hx : a.eval x = vx) (hr : (convert s t vx).run P w = .ok v w) : (execOp a.eval ⟨dst, .convert s t x, ty, pos, af, g⟩).run P w = .ok (.value v) w := by
  simp [execOp, hx, hr]
theorem ex_box {t : TypeId} (hx : a.eval x = vx) : (execOp a.eval ⟨dst, .box t x, ty, pos, af, g⟩).run P w = .ok (.value (.pointer (some ⟨w.heap.size, 0, none⟩))) (w.alloc (.cells vx.cells t)) := by
  simp [execOp, hx, Instr.box, newVar, newRow]
theorem ex_alloc {t : TypeId} {z : Value} (hz : (zeroValue t).run P w = .ok z w) : (execOp a.eval ⟨dst, .alloc t, ty, pos, af, g⟩).run P w = .ok (.value (.pointer (some ⟨w.heap.size, 0, none⟩))) (w.alloc (.cells z.cells t)) := by
  simp [execOp, Instr.alloc, hz, newVar, newRow]
theorem ex_lookup {t : TypeId} {ok : Bool} (hx : a.eval x = vx) (hy : a.eval y = vy) (hr : (Instr.lookup t vx vy ok).run P w = .ok v w) : (execOp a.eval ⟨dst, .lookup t x y ok, ty, pos, af, g⟩).run P w = .ok (.value v) w := by
  simp [execOp, hx, hy, hr]
theorem ex_makeMap {t k e : TypeId} (ht : P.underlying t = some (.map k e)) : (execOp a.eval ⟨dst, .makeMap t none, ty, pos, af, g⟩).run P w = .ok (.value (.map (some w.heap.size))) (w.alloc (.map #[] 0)) := by
  simp [execOp, Instr.makeMap, run_underlying ht]
theorem ex_slice {t : TypeId} {lo hi mx : Option Operand} (hx : a.eval x = vx) (hr : (Instr.sliceAt t vx (lo.map a.eval) (hi.map a.eval) (mx.map a.eval)).run P w = .ok v w) : (execOp a.eval ⟨dst, .slice t x lo hi mx, ty, pos, af, g⟩).run P w = .ok (.value v) w := by
  simp [execOp, hx, hr]
theorem ex_build {t : TypeId} {parts : Array (Nat × Operand)} {vs : Array (Nat × Value)} (hp : (parts.map fun (i, x) => (i, a.eval x)) = vs) (hr : (Instr.build t vs).run P w = .ok v w) : (execOp a.eval ⟨dst, .build t parts, ty, pos, af, g⟩).run P w = .ok (.value v) w := by
  simp only [execOp, hp]; simp [hr]
theorem ex_buildSlice {t : TypeId} {n : Nat} {parts : Array (Nat × Operand)} {vs : Array (Nat × Value)} (hp : (parts.map fun (i, x) => (i, a.eval x)) = vs) (hr : (Instr.buildSlice t n vs).run P w = .ok v w') : (execOp a.eval ⟨dst, .buildSlice t n parts, ty, pos, af, g⟩).run P w = .ok (.value v) w' := by
  simp only [execOp, hp]; simp [hr]
theorem ex_store {t : TypeId} {ad : Addr} {y : Operand} (hx : a.eval x = .pointer (some ad)) (hy : a.eval y = vy) (hr : (storeVar t ad vy).run P w = .ok () w') : (execOp a.eval ⟨dst, .store t x y, ty, pos, af, g⟩).run P w = .ok .skip w' := by
  simp [execOp, hx, hy, Instr.storeAt, Instr.sureAddr, hr]
theorem ex_mapUpdate {t : TypeId} {z : Operand} {vz : Value} (hx : a.eval x = vx) (hy : a.eval y = vy) (hz : a.eval z = vz) (hr : (Instr.mapUpdate t vx vy vz).run P w = .ok () w') : (execOp a.eval ⟨dst, .mapUpdate t x y z, ty, pos, af, g⟩).run P w = .ok .skip w' := by
  simp [execOp, hx, hy, hz, hr]
/-- A call by name. -/
theorem ex_call {f : FuncId} {args : Array Operand} {vs : Array Value} {tys : Array TypeId} {fn : Func} (hf : P.funcs[f]? = some fn) (hb : fn.body.isNone = false) (hn : (fn.name == "runtime.NumGoroutine") = false) (ha : args.map a.eval = vs) :
    (execOp a.eval ⟨dst, .call ⟨.value (.func f), args, tys⟩, ty, pos, af, g⟩).run P w = .ok (.enter f vs) w := by
  have hne : ¬ fn.name = "runtime.NumGoroutine" := by simpa using hn
  have hne' : ¬ fn.body = none := by intro e; rw [e] at hb; cases hb
  simp [execOp, resolve, Act.eval, Deferred.ofValue, ha, invoke, callFunc, hf, hne, hne']
/-- A builtin. -/
theorem ex_builtin {b : Builtin} {args : Array Operand} {vs : Array Value} {tys : Array TypeId} {s : Sem Value} (ha : args.map a.eval = vs) (hs : ∀ cs, builtin b tys ty cs vs = (do pure (.value (← s)))) (hr : s.run P w = .ok v w') :
    (execOp a.eval ⟨dst, .call ⟨.builtin b, args, tys⟩, ty, pos, af, g⟩).run P w = .ok (.value v) w' := by
  simp [execOp, resolve, ha, invoke, hs, hr]
end

end Go.Proofs.Yticodddigaiipaa
