/-
 Contracts of functions of the given program, each proved by a walk through its code: what a call answers, and what it leaves of memory; conditions: those ahead of each theorem's colon.
-/
import Derived.Test.YticodddigaiipaaSatL8
import Derived.Test.YticodddigaiipaaSatK13
import Derived.Test.YticodddigaiipaaSatT1
set_option linter.unusedVariables false
set_option linter.unusedSectionVars false
set_option linter.unusedSimpArgs false
namespace Go.Proofs.Yticodddigaiipaa
open Go.RowKit
theorem sh_119 : Try.prog.stoodInHeld 119 = false := by kernel_rfl
theorem eq_119 (d : Nat) (w : World) (x0 y0 : Int) (x1 y1 : Int) (x2 y2 : Int) : (Op.equalIn (d + 2) 119 (.agg #[.int .i64 x0, .int .i64 x1, .int .i64 x2]) (.agg #[.int .i64 y0, .int .i64 y1, .int .i64 y2])).run Try.prog w = .ok (x0 == y0 && (x1 == y1 && (x2 == y2 && true))) w := by
 refine eqs_of Try.underlying119 sh_119 ?_
 refine eqs_cons rfl (part1 (Try.isAgg3 w) rfl) (part1 (Try.isAgg3 w) rfl) (eqs_int (d := d + 0) Try.underlying3) ?_
 refine eqs_cons rfl (part1 (Try.isAgg3 w) rfl) (part1 (Try.isAgg3 w) rfl) (eqs_int (d := d + 0) Try.underlying3) ?_
 refine eqs_cons rfl (part1 (Try.isAgg3 w) rfl) (part1 (Try.isAgg3 w) rfl) (eqs_int (d := d + 0) Try.underlying3) ?_
 exact eqs_nil

/-! ### The arena -/
def nk (x : N3) : Value := .agg #[.int .i64 x.1, .int .i64 x.2.1, .int .i64 x.2.2]
def nvs (x : N3) : List Value := [.int .i64 x.1, .int .i64 x.2.1, .int .i64 x.2.2]
theorem nvs3 : ∀ x, (nvs x).length = 3 := fun _ => rfl

theorem node_eq (x y : N3) (w : World) : (Op.equal 119 (nk x) (nk y)).run Try.prog w = .ok (decide (x = y)) w := by
 have h := eq_119 9998 w x.1 y.1 x.2.1 y.2.1 x.2.2 y.2.2
 have e : (x.1 == y.1 && (x.2.1 == y.2.1 && (x.2.2 == y.2.2 && true))) = decide (x = y) := by
  rw [Bool.eq_iff_iff]; simp [Prod.ext_iff]
 rw [e] at h
 exact h
theorem nodeKey : KeyOk Try.prog 119 nk :=
 keyOk_agg Try.underlying119 (fun _ _ => rfl) (fun em x w => by cases em <;> kernel_rfl) node_eq (fun x => by
  have : ∀ m, Instr.sameBits (m + 2) (nk x) (nk x) = true := fun m => by simp [Instr.sameBits, nk]
  exact this 9998) (fun x y h => by
   simp only [nk, Value.agg.injEq, Array.mk.injEq, List.cons.injEq, Value.int.injEq, true_and, and_true] at h
   exact Prod.ext h.1 (Prod.ext h.2.1 h.2.2))
abbrev iv (n : Int) : Value := .int .i64 n

/-- An arena lies at b, in the blocks Fp: its nodes, its room. -/
structure ArenaAt (w : World) (b : Nat) (Fp : Nat → Prop) (A : List N3) (most : Int) : Prop where
 ex : ∃ bm row cap : Nat, w.heap[b]? = some (.cells #[.slice (some ⟨row, 0, none⟩) A.length cap, .map (some bm), .int .i64 most] 123 (0, 0)) ∧
  w.ownsRow 0 119 3 (.slice (some ⟨row, 0, none⟩) A.length cap) A.length (flat nvs A) ∧ (∃ n, MapF w bm nk iv (ixOf A) n) ∧ Fp = fun k => k = b ∨ k = bm ∨ k = row

theorem row_lt {w : World} {base : Nat} {e : TypeId} {size row n c : Nat} {xs : List Value} (h : w.ownsRow base e size (.slice (some ⟨row, 0, none⟩) n c) n xs) : ∃ cur, w.heap[row]? = some (.cells cur e (0, 0)) := by
 rcases h.2 with ⟨h, _⟩ | ⟨g, cap, cur, hv, hb, hg, r⟩
 ·cases h
 ·injection hv with h1 _ h3
  injection h1 with h1; injection h1 with h1
  subst h1
  exact ⟨cur, hg⟩

section
variable {w w' : World} {b : Nat} {Fp : Nat → Prop} {A : List N3} {most : Int}
theorem ArenaAt.lt (h : ArenaAt w b Fp A most) {k : Nat} (hk : Fp k) : k < w.heap.size := by
 obtain ⟨bm, row, cap, hb, ho, ⟨n, hm⟩, rfl⟩ := h.ex
 rcases hk with rfl | rfl | rfl
 ·exact lt_of hb
 ·exact hm.lt
 ·obtain ⟨cur, hg⟩ := row_lt ho
  exact lt_of hg
theorem ArenaAt.same (h : ArenaAt w b Fp A most) (hw : ∀ k, Fp k → w'.heap[k]? = w.heap[k]?) : ArenaAt w' b Fp A most := by
 obtain ⟨bm, row, cap, hb, ho, ⟨n, hm⟩, rfl⟩ := h.ex
 exact ⟨bm, row, cap, (hw b (.inl rfl)).trans hb, own_same ho (fun j hj => by cases hj; exact hw row (.inr (.inr rfl))), ⟨n, hm.same (hw bm (.inr (.inl rfl)))⟩, rfl⟩
theorem ArenaAt.keep (h : ArenaAt w b Fp A most) (hw : Ext w w') : ArenaAt w' b Fp A most :=
 h.same fun k hk => hw.block k (h.lt hk)
theorem ArenaAt.turn {c : Nat} {o : Obj} (h : ArenaAt w b Fp A most) (hw : Turn c o w w') (hc : ¬ Fp c) : ArenaAt w' b Fp A most :=
 h.same fun k hk => hw.touch.block k (h.lt hk) fun e => hc (e ▸ hk)
/-- a node more -/
theorem ArenaAt.push {bm cap' : Nat} {A' : Option Addr} {x : N3} {f : N3 → Option Int} {n ln : Nat} (h2 : 2 ≤ A.length) (hx : ixOf A x = none) (hb : w.heap[b]? = some (.cells #[.slice A' ln cap', .map (some bm), .int .i64 most] 123 (0, 0)))
  (ho : w.ownsRow 0 119 3 (.slice A' ln cap') ln (flat nvs A ++ nvs x)) (hl : ln = A.length + 1) (hm : MapF w bm nk iv f n) (hf : f = fun z => if z = x then some (A.length : Int) else ixOf A z) :
  ∃ row, A' = some ⟨row, 0, none⟩ ∧ ArenaAt w b (fun k => k = b ∨ k = bm ∨ k = row) (A ++ [x]) most := by
 subst hl
 obtain ⟨row, rfl⟩ := own_addr ho (by omega)
 have hl : A.length + 1 = (A ++ [x]).length := by simp
 rw [hl] at hb ho
 rw [flat_push] at ho
 refine ⟨row, rfl, bm, row, cap', hb, ho, ⟨n, ?_⟩, rfl⟩
 rw [show ixOf (A ++ [x]) = f from by rw [hf]; exact funext fun z => ix_push h2 hx z]
 exact hm
end

end Go.Proofs.Yticodddigaiipaa
