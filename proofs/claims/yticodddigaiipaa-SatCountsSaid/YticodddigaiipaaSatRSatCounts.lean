/-
  All expressions that may be at once: each set's ways are as many as are counted one by one, and its least is the first of them; conditions: none.
-/
import Derived.Test.YticodddigaiipaaRows
import Derived.Test.YticodddigaiipaaSatK15
import Derived.Test.YticodddigaiipaaSatS14
import Derived.WalkKit
import Derived.ProofKit
import Derived.OpenShut
import Derived.ShutString
import Derived.ChangeOld
import Derived.Below
set_option linter.unusedVariables false
set_option linter.unusedSimpArgs false
namespace Go.Proofs.Yticodddigaiipaa
open Go.RowKit
theorem op_3 {H : Type} {enc : TypeId × Value → H} {w : World} {base : Nat} {sp : Nat → Bool} {held : Bool} {f : Nat} {cs : List Value} {x : DataW H × List MemPlace} (h : DataW.trod enc Try.prog w base sp held f 3 cs = some x) : ∃ x0 : Int, cs = [.int .i64 x0] ∧ (-9223372036854775808 ≤ x0 ∧ x0 ≤ 9223372036854775807) := by
  obtain ⟨n, h1, h2⟩ := td_int Try.underlying3 h
  exact ⟨n, h1, h2⟩
theorem op_4 {H : Type} {enc : TypeId × Value → H} {w : World} {base : Nat} {sp : Nat → Bool} {held : Bool} {f : Nat} {cs : List Value} {x : DataW H × List MemPlace} (h : DataW.trod enc Try.prog w base sp held f 4 cs = some x) : ∃ x0 : Bool, cs = [.bool x0] ∧ True := by
  obtain ⟨b, h1⟩ := td_bool Try.underlying4 h
  exact ⟨b, h1, trivial⟩
theorem list_6 {l : List Value} (h : l.length = 6) : ∃ c0 c1 c2 c3 c4 c5, l = [c0, c1, c2, c3, c4, c5] := by
  match l, h with
  | [c0, c1, c2, c3, c4, c5], _ => exact ⟨c0, c1, c2, c3, c4, c5, rfl⟩
theorem op_139 {H : Type} {enc : TypeId × Value → H} {w : World} {base : Nat} {sp : Nat → Bool} {held : Bool} {f : Nat} {cs : List Value} {x : DataW H × List MemPlace} (h : DataW.trod enc Try.prog w base sp held f 139 cs = some x) : ∃ x0 : Int, ∃ x1 : Int, ∃ x2 : Int, ∃ x3 : Int, ∃ x4 : Int, ∃ x5 : Bool, cs = [.int .i64 x0, .int .i64 x1, .int .i64 x2, .int .i64 x3, .int .i64 x4, .bool x5] ∧ (-9223372036854775808 ≤ x0 ∧ x0 ≤ 9223372036854775807) ∧ (-9223372036854775808 ≤ x1 ∧ x1 ≤ 9223372036854775807) ∧ (-9223372036854775808 ≤ x2 ∧ x2 ≤ 9223372036854775807) ∧ (-9223372036854775808 ≤ x3 ∧ x3 ≤ 9223372036854775807) ∧ (-9223372036854775808 ≤ x4 ∧ x4 ≤ 9223372036854775807) ∧ True := by
  obtain ⟨hl, hf⟩ := td_struct Try.underlying139 (by kernel_rfl : Try.prog.cellsOf 139 = 6) h
  obtain ⟨_, _, g0⟩ := hf 0 _ rfl
  obtain ⟨y0, e0, r0⟩ := op_3 g0
  have e0' : (cs.drop 0).take 1 = _ := (congrArg (fun q => (cs.drop 0).take q) (by kernel_rfl : 1 = Try.prog.cellsOf 3)).trans e0
  obtain ⟨_, _, g1⟩ := hf 1 _ rfl
  obtain ⟨y1, e1, r1⟩ := op_3 g1
  have e1' : (cs.drop 1).take 1 = _ := (congrArg (fun q => (cs.drop 1).take q) (by kernel_rfl : 1 = Try.prog.cellsOf 3)).trans e1
  obtain ⟨_, _, g2⟩ := hf 2 _ rfl
  obtain ⟨y2, e2, r2⟩ := op_3 g2
  have e2' : (cs.drop 2).take 1 = _ := (congrArg (fun q => (cs.drop 2).take q) (by kernel_rfl : 1 = Try.prog.cellsOf 3)).trans e2
  obtain ⟨_, _, g3⟩ := hf 3 _ rfl
  obtain ⟨y3, e3, r3⟩ := op_3 g3
  have e3' : (cs.drop 3).take 1 = _ := (congrArg (fun q => (cs.drop 3).take q) (by kernel_rfl : 1 = Try.prog.cellsOf 3)).trans e3
  obtain ⟨_, _, g4⟩ := hf 4 _ rfl
  obtain ⟨y4, e4, r4⟩ := op_3 g4
  have e4' : (cs.drop 4).take 1 = _ := (congrArg (fun q => (cs.drop 4).take q) (by kernel_rfl : 1 = Try.prog.cellsOf 3)).trans e4
  obtain ⟨_, _, g5⟩ := hf 5 _ rfl
  obtain ⟨y5, e5, r5⟩ := op_4 g5
  have e5' : (cs.drop 5).take 1 = _ := (congrArg (fun q => (cs.drop 5).take q) (by kernel_rfl : 1 = Try.prog.cellsOf 4)).trans e5
  clear hf h
  clear e0 g0 e1 g1 e2 g2 e3 g3 e4 g4 e5 g5
  obtain ⟨c0, c1, c2, c3, c4, c5, rfl⟩ := list_6 hl
  simp only [List.drop_succ_cons, List.drop_zero, List.take_succ_cons, List.take_zero, List.cons.injEq, and_true] at e0'
  obtain rfl := e0'
  simp only [List.drop_succ_cons, List.drop_zero, List.take_succ_cons, List.take_zero, List.cons.injEq, and_true] at e1'
  obtain rfl := e1'
  simp only [List.drop_succ_cons, List.drop_zero, List.take_succ_cons, List.take_zero, List.cons.injEq, and_true] at e2'
  obtain rfl := e2'
  simp only [List.drop_succ_cons, List.drop_zero, List.take_succ_cons, List.take_zero, List.cons.injEq, and_true] at e3'
  obtain rfl := e3'
  simp only [List.drop_succ_cons, List.drop_zero, List.take_succ_cons, List.take_zero, List.cons.injEq, and_true] at e4'
  obtain rfl := e4'
  simp only [List.drop_succ_cons, List.drop_zero, List.take_succ_cons, List.take_zero, List.cons.injEq, and_true] at e5'
  obtain rfl := e5'
  exact ⟨y0, y1, y2, y3, y4, y5, rfl, r0, r1, r2, r3, r4, r5⟩
namespace satCounts
open Go.ChangeShapes Go.WideShapes Go.ChangeAt Go.RowKit
theorem own : ownKnob Try.prog.godebug = none := by kernel_rfl
theorem laidOut : laidOutB Try.prog = true := by kernel_rfl
set_option maxRecDepth 100000 in
theorem lifted (os : Os) (started : os.Started) (H : Type) (enc : TypeId × Value → H) :
    ReturnsInHanded {} Try.checked os 4 .any (Rows.satCountsSpec.pre6 enc Try.prog Try.f4 Rows.satCountsRow.domain false) (Rows.satCountsSpec.post enc Try.prog Try.f4 false true false false) := by
  refine returnsInHanded_of_change (C := Try.checked) own started (by kernel_rfl) Try.func4
    (ChangeSpec.witness6 (enc := enc) (C := Try.checked) false ⟨#[], #[.slice none 0 0], []⟩ 8 (by kernel_rfl) (by kernel_rfl) (by kernel_rfl) (by kernel_rfl)) ?_
  intro W base args ds gs before hval0 hW hcnd _
  have hval : ∀ (j : Nat) t v, Try.f4.params[j]? = some t → args[j]? = some v → Value.okWide Try.prog W .any base t v := hval0
  have hW' := hW
  obtain ⟨p, q, hA0, hV, rfl, hfz, hnd⟩ := hW
  have hA : DataW.TrodAll enc Try.prog W 0 (fun _ => true) true Try.f4.params.toList args.toList ds p := hA0
  rw [Try.params4] at hA hval
  obtain ⟨v0, vs0, d0, ds0, p0, q0, hargs, rfl, rfl, h0, r0⟩ := trodAll_cons hA
  obtain ⟨rfl, rfl, rfl⟩ := trodAll_nil r0
  obtain rfl : args = #[v0] := by cases args; simp_all
  obtain ⟨rfl, rfl⟩ := trodVars_none hV
  have k0 := h0
  have lt0 : ∀ x ∈ p0, x.block < W.heap.size := by obtain ⟨m, hm⟩ := k0; exact DataW.trod_lt m _ _ _ hm
  obtain ⟨a0, ln0, cp0, rfl⟩ := okWide_slice Try.underlying45 (hval 0 45 v0 rfl rfl)
  obtain ⟨fu0, hf0⟩ := h0
  obtain ⟨L, Q, cq, ec0, ok_L, HR_L, hc_L, hm_L⟩ := td_slice (ec := exv) (ok := fun _ => True) Try.underlying45 (by kernel_rfl : Try.prog.cellsOf 139 = 6) (by decide) (fun f' es y h => by obtain ⟨x0, x1, x2, x3, x4, x5, e, r0, r1, r2, r3, r4, r5⟩ := op_139 h; exact ⟨⟨x0, x1, x2, x3, x4, x5⟩, trivial, e⟩) exv6 hf0
  obtain ⟨rfl, rfl, rfl⟩ : a0 = Q ∧ ln0 = L.length ∧ cp0 = cq := by simpa [Value.cells] using ec0
  clear hA0 hval0
  refine (c_SatCounts (w := W) HR_L hc_L (by have := hm_L; unfold maxLen at this; omega)).mono fun e W' ⟨he, bel⟩ => ?_
  subst he
  exact ⟨_, rfl, _, _, _, [], _, [], hW', trodAll_mk1 (shut_bool Try.underlying4 _), (trodAll_cons_mk (Below.trod laidOut (by kernel_rfl) (of_decide_eq_true (by kernel_rfl)) k0 bel lt0) trodAll_mk0), rfl, bel.frame _, fun h => by cases h⟩
theorem over : Rows.satCountsRow.holds Try.pinned (OpenSpec.ofChange Rows.satCountsSpec) :=
  OpenClaim.holds_of_wide 4 Try.f4 rfl rfl rfl rfl rfl rfl rfl ⟨rfl, rfl, rfl, rfl, rfl⟩ rfl rfl rfl rfl rfl (by kernel_rfl) Try.func4 (by kernel_rfl)
    (of_decide_eq_true (by kernel_rfl)) (by unfold Func.isWrapper; first | (rw [if_pos (by decide +kernel)]; kernel_rfl) | (rw [if_neg (by decide +kernel)]; exact ⟨rfl, rfl⟩))
    (fun os started H enc _ => lifted os started H enc)
theorem proved : Rows.SatCountsSaid := over
end satCounts
/-- The row, under a short name, for the claim. -/
theorem satCounts_holds : Rows.SatCountsSaid := satCounts.proved
#print axioms satCounts_holds
end Go.Proofs.Yticodddigaiipaa
