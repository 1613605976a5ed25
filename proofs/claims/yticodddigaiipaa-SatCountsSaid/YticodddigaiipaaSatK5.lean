/-
  '==' of structs whose fields are numbers, bools and such structs.
-/
import Derived.Test.YticodddigaiipaaSatK4
import Derived.Laws.StructEq
set_option linter.unusedVariables false
set_option linter.unusedSectionVars false
set_option linter.unusedSimpArgs false
namespace Go.Proofs.Yticodddigaiipaa
open Go.RowKit
section
variable {P : Program} {d : Nat} {xs ys : Array Value} {f : Field} {fs : List Field} {u v : Value} {r s : Bool} {w : World}
theorem part1 {t off : Nat} {cs : Array Value} (hA : (isAgg t).run P w = .ok false w) (h : cs[off]? = some v) : (part t cs off).run P w = .ok v w := by
  simp [part, hA, h]
theorem eqs_cons (hn : (f.name == "_") = false) (hu : (part f.type xs f.offset).run P w = .ok u w) (hv : (part f.type ys f.offset).run P w = .ok v w) (he : (Op.equalIn d f.type u v).run P w = .ok r w) (hr : (Op.eqFields d xs ys fs).run P w = .ok s w) :
    (Op.eqFields d xs ys (f :: fs)).run P w = .ok (r && s) w := by
  have hn' : f.name ≠ "_" := by simpa using hn
  rw [Op.eqFields]
  simp only [if_pos hn', Sem.run_bind, hu, hv, he, Result.andThen_ok]
  cases r
  · simp
  · simpa using hr
theorem eqs_nil : (Op.eqFields d xs ys []).run P w = .ok true w := by simp [Op.eqFields]
theorem eqs_of {t : TypeId} {fs : Array Field} (hu : P.underlying t = some (.struct fs)) (hp : P.stoodInHeld t = false) (h : (Op.eqFields d xs ys fs.toList).run P w = .ok r w) : (Op.equalIn (d + 1) t (.agg xs) (.agg ys)).run P w = .ok r w := by
  have hf : P.fieldsOf t = fs := by simp [Program.fieldsOf, hu]
  rw [run_equalIn_struct (P := P) w d t xs ys (by rw [hf]; exact hu) hp, hf]
  exact h
theorem eqs_int {t : TypeId} {k k' : IntKind} {m n : Int} (h : P.underlying t = some (.int k')) : (Op.equalIn (d + 1) t (.int k m) (.int k n)).run P w = .ok (m == n) w := run_equalIn_int w d t k k' m n h
theorem eqs_eql {t : TypeId} {x y : Operand} (hg : P.eqGuardType P.depth t = false) (h : (Op.equalIn 10000 t (.agg xs) (.agg ys)).run P w = .ok r w) :
    (do eqGuard .eql t x y (.agg xs) (.agg ys); binOp .eql t (.agg xs) (.agg ys) : Sem Value).run P w = .ok (.bool r) w := by
  simp [eqGuard, hg, binOp, Op.equal, Op.maxDepth, h]
theorem eqs_neq {t : TypeId} {x y : Operand} (hg : P.eqGuardType P.depth t = false) (h : (Op.equalIn 10000 t (.agg xs) (.agg ys)).run P w = .ok r w) :
    (do eqGuard .neq t x y (.agg xs) (.agg ys); binOp .neq t (.agg xs) (.agg ys) : Sem Value).run P w = .ok (.bool (!r)) w := by
  simp [eqGuard, hg, binOp, Op.equal, Op.maxDepth, h]
end

theorem run_conv {P : Program} {w : World} {src dst : TypeId} {k kd : IntKind} {n : Int} {d : TypeDesc} (hs : P.underlying src = some d) (hd : P.underlying dst = some (.int kd)) : (convert src dst (.int k n)).run P w = .ok (.int kd (kd.wrap n)) w := by
  simp [convert, run_underlying hs, run_underlying hd, Conv.intToInt]

section
variable {P : Program} {ops : Array Oper} {a : Act} {w : World} {K : Value → World → Prop} {Q : Exit → Act → World → Prop} {rest : List Oper} {o : Oper}
theorem yields_undef {g d : Nat} (hd : (ops[g]?).bind (·.dst) = some d) (h : a.eval (.tmp d) = undef) : yielded ops a.tmps g = none := by
  have h' : (a.tmps[d]?).getD undef = undef := by simpa [Act.eval] using h
  unfold yielded; rw [hd]; simp only [Option.bind_some]
  cases ht : a.tmps[d]? with
  | none => rfl
  | some x => rw [ht] at h'; simp at h'; subst h'; rfl
/-- The operation that it waits for wasn't wanted. -/
theorem Does.nou {g d : Nat} {b : Bool} (hg : o.guard = some (g, b)) (hd : (ops[g]?).bind (·.dst) = some d) (hv : a.eval (.tmp d) = undef) (h : K undef w) : Does P ops o a w K := by
  unfold Does; rw [if_neg (by simp [Region.wanted, hg, yields_undef hd hv])]; exact h
theorem seq_nou {n g d : Nat} {b : Bool} (hn : a.tmps.size = n) (hd : ((o.dst.map fun d => decide (d < n)).getD true) = true) (hg : o.guard = some (g, b)) (hgd : (ops[g]?).bind (·.dst) = some d) (hv : a.eval (.tmp d) = undef)
    (next : ∀ a', Put a o.dst undef a' → wpList P ops Q rest a' w) : wpList P ops Q (o :: rest) a w :=
  seq_does hn hd (K := fun v' w' => v' = undef ∧ w' = w) (.nou hg hgd hv ⟨rfl, rfl⟩) fun _ _ a' ⟨e1, e2⟩ hp => by subst e1; subst e2; exact next a' hp
end
end Go.Proofs.Yticodddigaiipaa
