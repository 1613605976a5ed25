/-
  Calls of functions that the model stands in for.
-/
import Derived.Test.YticodddigaiipaaSatK17
import Derived.Laws.Externs
set_option linter.unusedVariables false
set_option linter.unusedSectionVars false
set_option linter.unusedSimpArgs false
namespace Go.Proofs.Yticodddigaiipaa
open Go.RowKit

section
variable {P : Program} {a : Act} {w w' : World} {dst : Option Tmp} {ty : TypeId} {pos : String} {af : Array Edge} {g : Option (Nat × Bool)} {v : Value}
theorem exl_extern {f : FuncId} {l : List Operand} {vs : List Value} {tys : Array TypeId} (ha : l.map a.eval = vs) (hc : (callFunc f vs.toArray).run P w = .ok (.value v) w') :
    (execOp a.eval ⟨dst, .call ⟨.value (.func f), l.toArray, tys⟩, ty, pos, af, g⟩).run P w = .ok (.value v) w' := by
  have e : l.toArray.map a.eval = vs.toArray := by rw [List.map_toArray, ha]
  simp [execOp, resolve, Act.eval, Deferred.ofValue, e, invoke, hc]
end
theorem call_add64 {P : Program} {f : FuncId} {fn : Func} (hf : P.funcs[f]? = some fn) (hname : (fn.name == "runtime.NumGoroutine") = false) (hb : fn.body.isNone = true) (hn : Extern.findNext fn = none) (he : Extern.find fn = some add64Entry) {x y c : Int} (hx : 0 ≤ x) (hy : 0 ≤ y) (hc0 : 0 ≤ c) (hc : c ≤ 1) (w : World) :
    (callFunc f #[.int .u64 x, .int .u64 y, .int .u64 c]).run P w = .ok (.value (.tuple #[.int .u64 ((x + y + c) % 18446744073709551616), .int .u64 ((x + y + c) / 18446744073709551616)])) w := by
  rw [run_callFunc_extern hf hname hb hn he, run_add64 x y c hx hy hc0 hc]; rfl
/-- A whole number below 2^128, as two words. -/
def hiW (n : Nat) : Int := ((n / 18446744073709551616 % 18446744073709551616 : Nat) : Int)
def loW (n : Nat) : Int := ((n % 18446744073709551616 : Nat) : Int)
end Go.Proofs.Yticodddigaiipaa
