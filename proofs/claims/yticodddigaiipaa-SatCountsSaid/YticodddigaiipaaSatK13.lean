/-
  '==' of arrays of two numbers, and maps with such keys.
-/
import Derived.Test.YticodddigaiipaaSatK12
import Derived.ChangeKeysEq
set_option linter.unusedVariables false
set_option linter.unusedSimpArgs false
namespace Go.Proofs.Yticodddigaiipaa
open Go.RowKit

abbrev I2 := Int × Int
def pk (x : I2) : Value := .agg #[.int .i64 x.1, .int .i64 x.2]
theorem eq_pair {P : Program} {t e : TypeId} (hu : P.underlying t = some (.array 2 e)) (he : P.underlying e = some (.int .i64)) (hA : ∀ w, (isAgg e).run P w = .ok false w) (hc : P.cellsOf e = 1) (x y : I2) (w : World) : (Op.equal t (pk x) (pk y)).run P w = .ok (decide (x = y)) w := by
  obtain ⟨i, hi⟩ : ∃ i, P.info? e = some i := by
    unfold Program.underlying at he
    cases h : P.info? e with
    | some i => exact ⟨i, rfl⟩
    | none => simp [h] at he
  have h := run_equalIn_array (P := P) w 9999 (t := t) (e := e) (n := 2) (i := i) #[.int .i64 x.1, .int .i64 x.2] #[.int .i64 y.1, .int .i64 y.2] hu hi
  have p : ∀ (cs : Array Value) (j : Nat) (v : Value), cs[j]? = some v → (part e cs (j * 1)).run P w = .ok v w := fun cs j v h => part1 (hA w) (by rw [Nat.mul_one]; exact h)
  have q : ∀ m n : Int, (Op.equalIn 9999 e (.int .i64 m) (.int .i64 n)).run P w = .ok (m == n) w := fun m n => eqs_int (d := 9998) he
  show (Op.equalIn 10000 t _ _).run P w = _
  rw [pk, pk, h, hc]
  have hr : List.range 2 = [0, 1] := rfl
  rw [hr]
  have p0 : ∀ a b : Value, (part e #[a, b] (0 * 1)).run P w = .ok a w := fun a b => p _ 0 _ rfl
  have p1 : ∀ a b : Value, (part e #[a, b] (1 * 1)).run P w = .ok b w := fun a b => p _ 1 _ rfl
  have e : decide (x = y) = (x.1 == y.1 && x.2 == y.2) := by rw [Bool.eq_iff_iff]; simp [Prod.ext_iff]
  rw [e]
  have q1 := q x.1 y.1
  have q2 := q x.2 y.2
  generalize (x.1 == y.1) = b1 at q1 ⊢
  generalize (x.2 == y.2) = b2 at q2 ⊢
  simp only [Op.eqItems, Sem.run_bind, p0, p1, Result.andThen_ok, q1, q2]
  cases b1 <;> cases b2 <;> simp [p0, p1, q1, q2]
theorem pairKey {P : Program} {t e : TypeId} (hu : P.underlying t = some (.array 2 e)) (he : P.underlying e = some (.int .i64)) (hA : ∀ w, (isAgg e).run P w = .ok false w) (hc : P.cellsOf e = 1) (hk : ∀ em x w, (Instr.checkKey em 10000 t (pk x)).run P w = .ok () w) : KeyOk P t pk :=
  keyOk_agg hu (fun _ _ => rfl) hk (eq_pair hu he hA hc) (fun x => by
    have : ∀ m, Instr.sameBits (m + 2) (pk x) (pk x) = true := fun m => by simp [Instr.sameBits, pk]
    exact this 9998) (fun x y h => by
      simp only [pk, Value.agg.injEq, Array.mk.injEq, List.cons.injEq, Value.int.injEq, true_and, and_true] at h
      exact Prod.ext h.1 h.2)
end Go.Proofs.Yticodddigaiipaa
