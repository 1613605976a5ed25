/-
 Contracts of functions of the given program, each proved by a walk through its code: what a call answers, and what it leaves of memory; conditions: those ahead of each theorem's colon.
-/
import Derived.Test.YticodddigaiipaaSatT5
set_option linter.unusedVariables false
set_option linter.unusedSimpArgs false
namespace Go.Proofs.Yticodddigaiipaa
open Go.RowKit
theorem cv_25_22 {n : Int} {w : World} : (convert 25 22 (.int .u16 n)).run Try.prog w = .ok (.int .u32 (IntKind.u32.wrap n)) w := run_conv Try.underlying25 Try.underlying22
theorem cvn_25_22 {n : Int} {w : World} (h : 0 ≤ n ∧ n ≤ 4294967295) : (convert 25 22 (.int .u16 n)).run Try.prog w = .ok (.int .u32 n) w := by rw [cv_25_22, wrap_u32 h]
theorem row_out {N : Nat} {v : Value} {Fp : Nat → Prop} (h : ∀ j, v.ownBlock = some j → N ≤ j) (hF : ∀ k, Fp k → k < N) : ∀ j, v.ownBlock = some j → ¬ Fp j := fun j hj hf => by have := h j hj; have := hF j hf; omega
theorem row_no {N c : Nat} {v : Value} (h : ∀ j, v.ownBlock = some j → N ≤ j) (hc : c < N) : ∀ j, v.ownBlock = some j → j ≠ c := fun j hj => by have := h j hj; omega
theorem row_base {N B : Nat} {v : Value} (h : ∀ j, v.ownBlock = some j → N ≤ j) (hB : B ≤ N) : ∀ j, v.ownBlock = some j → B ≤ j := fun j hj => Nat.le_trans hB (h j hj)
theorem c_Cube {w : World} {b : Nat} {Fp : Nat → Prop} {A : List N3} {most : Int} {Q : Option Addr} {L : List Lt} {cq nl : Nat} (hnl : nl = L.length) (H : ArenaAt w b Fp A most) (hW : Wf A) (hm : (A.length : Int) ≤ most) (hm2 : most ≤ 262144) (HL : w.ownsRow 0 133 2 (.slice Q nl cq) nl (flat lvs_ L)) (hL : Cubic L) (hLl : L.length ≤ 104) (hout : ∀ j, (Value.slice Q nl cq).ownBlock = some j → ¬ Fp j) :
  Calls Try.prog 56 #[.pointer (some ⟨b, 0, none⟩), .slice Q nl cq] w fun e w' => ∃ Fp' A' r c, e = .returned (.tuple #[.int .i64 r, .int .i64 c]) ∧ ArenaAt w' b Fp' A' most ∧ Mut Fp Fp' w w' ∧ Res A A' most c (Okn A' r ∧ ∀ v, den A' v r = cubeD L v) ∧ (c ≠ 0 → A' = A ∧ r = 0) ∧ (L = [] → c = 0 ∧ r = 1) ∧ (A', r, c) = cubeF A most L := by
 subst hnl; exact c_Cube_ H hW hm hm2 HL hL hLl hout

theorem any_take {α : Type} {L : List α} {d : α} {p : α → Bool} {k : Nat} (h : k < L.length) : (L.take (k + 1)).any p = ((L.take k).any p || p (at_ L d (k : Int))) := by
 rw [List.take_succ_eq_append_getElem h, List.any_append]
 have e : at_ L d (k : Int) = L[k] := by simp [at_, h]
 rw [e]; simp
end Go.Proofs.Yticodddigaiipaa
