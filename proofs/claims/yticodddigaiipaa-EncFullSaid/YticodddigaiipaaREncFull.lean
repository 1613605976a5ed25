/-
  In an arena of whatever room the set of a filter that may be is as it should be, or it is refused for want of room and no node is new; conditions: none.
-/
import Derived.Test.YticodddigaiipaaRows
import Derived.Test.YticodddigaiipaaK15
import Derived.Test.YticodddigaiipaaE3
import Derived.WalkKit
import Derived.ProofKit
import Derived.OpenShut
import Derived.ShutString
import Derived.ChangeOld
import Derived.Below
set_option linter.unusedVariables false
set_option linter.unusedSimpArgs false
namespace Go.Proofs.Yticodddigaiipaa
open Go.RowKit
theorem op_22 {H : Type} {enc : TypeId × Value → H} {w : World} {base : Nat} {sp : Nat → Bool} {held : Bool} {f : Nat} {cs : List Value} {x : DataW H × List MemPlace} (h : DataW.trod enc Try.prog w base sp held f 22 cs = some x) : ∃ x0 : Int, cs = [.int .u32 x0] ∧ (0 ≤ x0 ∧ x0 ≤ 4294967295) := by
  obtain ⟨n, h1, h2⟩ := td_int Try.underlying22 h
  exact ⟨n, h1, h2⟩
theorem op_3 {H : Type} {enc : TypeId × Value → H} {w : World} {base : Nat} {sp : Nat → Bool} {held : Bool} {f : Nat} {cs : List Value} {x : DataW H × List MemPlace} (h : DataW.trod enc Try.prog w base sp held f 3 cs = some x) : ∃ x0 : Int, cs = [.int .i64 x0] ∧ (-9223372036854775808 ≤ x0 ∧ x0 ≤ 9223372036854775807) := by
  obtain ⟨n, h1, h2⟩ := td_int Try.underlying3 h
  exact ⟨n, h1, h2⟩
theorem list_2 {l : List Value} (h : l.length = 2) : ∃ c0 c1, l = [c0, c1] := by
  match l, h with
  | [c0, c1], _ => exact ⟨c0, c1, rfl⟩
theorem op_24 {H : Type} {enc : TypeId × Value → H} {w : World} {base : Nat} {sp : Nat → Bool} {held : Bool} {f : Nat} {cs : List Value} {x : DataW H × List MemPlace} (h : DataW.trod enc Try.prog w base sp held f 24 cs = some x) : ∃ x0 : Int, ∃ x1 : Int, cs = [.int .u32 x0, .int .i64 x1] ∧ (0 ≤ x0 ∧ x0 ≤ 4294967295) ∧ (-9223372036854775808 ≤ x1 ∧ x1 ≤ 9223372036854775807) := by
  obtain ⟨hl, hf⟩ := td_struct Try.underlying24 (by kernel_rfl : Try.prog.cellsOf 24 = 2) h
  obtain ⟨_, _, g0⟩ := hf 0 _ rfl
  obtain ⟨y0, e0, r0⟩ := op_22 g0
  have e0' : (cs.drop 0).take 1 = _ := (congrArg (fun q => (cs.drop 0).take q) (by kernel_rfl : 1 = Try.prog.cellsOf 22)).trans e0
  obtain ⟨_, _, g1⟩ := hf 1 _ rfl
  obtain ⟨y1, e1, r1⟩ := op_3 g1
  have e1' : (cs.drop 1).take 1 = _ := (congrArg (fun q => (cs.drop 1).take q) (by kernel_rfl : 1 = Try.prog.cellsOf 3)).trans e1
  clear hf h
  clear e0 g0 e1 g1
  obtain ⟨c0, c1, rfl⟩ := list_2 hl
  simp only [List.drop_succ_cons, List.drop_zero, List.take_succ_cons, List.take_zero, List.cons.injEq, and_true] at e0'
  obtain rfl := e0'
  simp only [List.drop_succ_cons, List.drop_zero, List.take_succ_cons, List.take_zero, List.cons.injEq, and_true] at e1'
  obtain rfl := e1'
  exact ⟨y0, y1, rfl, r0, r1⟩
theorem op_25 {H : Type} {enc : TypeId × Value → H} {w : World} {base : Nat} {sp : Nat → Bool} {held : Bool} {f : Nat} {cs : List Value} {x : DataW H × List MemPlace} (h : DataW.trod enc Try.prog w base sp held f 25 cs = some x) : ∃ x0 : Int, cs = [.int .u16 x0] ∧ (0 ≤ x0 ∧ x0 ≤ 65535) := by
  obtain ⟨n, h1, h2⟩ := td_int Try.underlying25 h
  exact ⟨n, h1, h2⟩
theorem op_27 {H : Type} {enc : TypeId × Value → H} {w : World} {base : Nat} {sp : Nat → Bool} {held : Bool} {f : Nat} {cs : List Value} {x : DataW H × List MemPlace} (h : DataW.trod enc Try.prog w base sp held f 27 cs = some x) : ∃ x0 : Int, ∃ x1 : Int, cs = [.int .u16 x0, .int .u16 x1] ∧ (0 ≤ x0 ∧ x0 ≤ 65535) ∧ (0 ≤ x1 ∧ x1 ≤ 65535) := by
  obtain ⟨hl, hf⟩ := td_struct Try.underlying27 (by kernel_rfl : Try.prog.cellsOf 27 = 2) h
  obtain ⟨_, _, g0⟩ := hf 0 _ rfl
  obtain ⟨y0, e0, r0⟩ := op_25 g0
  have e0' : (cs.drop 0).take 1 = _ := (congrArg (fun q => (cs.drop 0).take q) (by kernel_rfl : 1 = Try.prog.cellsOf 25)).trans e0
  obtain ⟨_, _, g1⟩ := hf 1 _ rfl
  obtain ⟨y1, e1, r1⟩ := op_25 g1
  have e1' : (cs.drop 1).take 1 = _ := (congrArg (fun q => (cs.drop 1).take q) (by kernel_rfl : 1 = Try.prog.cellsOf 25)).trans e1
  clear hf h
  clear e0 g0 e1 g1
  obtain ⟨c0, c1, rfl⟩ := list_2 hl
  simp only [List.drop_succ_cons, List.drop_zero, List.take_succ_cons, List.take_zero, List.cons.injEq, and_true] at e0'
  obtain rfl := e0'
  simp only [List.drop_succ_cons, List.drop_zero, List.take_succ_cons, List.take_zero, List.cons.injEq, and_true] at e1'
  obtain rfl := e1'
  exact ⟨y0, y1, rfl, r0, r1⟩
theorem list_9 {l : List Value} (h : l.length = 9) : ∃ c0 c1 c2 c3 c4 c5 c6 c7 c8, l = [c0, c1, c2, c3, c4, c5, c6, c7, c8] := by
  match l, h with
  | [c0, c1, c2, c3, c4, c5, c6, c7, c8], _ => exact ⟨c0, c1, c2, c3, c4, c5, c6, c7, c8, rfl⟩
theorem op_29 {H : Type} {enc : TypeId × Value → H} {w : World} {base : Nat} {sp : Nat → Bool} {held : Bool} {f : Nat} {cs : List Value} {x : DataW H × List MemPlace} (h : DataW.trod enc Try.prog w base sp held f 29 cs = some x) : ∃ x0 : Int, ∃ x1 : Int, ∃ x2 : Int, ∃ x3 : Int, ∃ x4 : Int, ∃ x5 : Int, ∃ x6 : Int, ∃ x7 : Int, ∃ x8 : Int, cs = [.int .u32 x0, .int .i64 x1, .int .u32 x2, .int .i64 x3, .int .i64 x4, .int .u16 x5, .int .u16 x6, .int .u16 x7, .int .u16 x8] ∧ (0 ≤ x0 ∧ x0 ≤ 4294967295) ∧ (-9223372036854775808 ≤ x1 ∧ x1 ≤ 9223372036854775807) ∧ (0 ≤ x2 ∧ x2 ≤ 4294967295) ∧ (-9223372036854775808 ≤ x3 ∧ x3 ≤ 9223372036854775807) ∧ (-9223372036854775808 ≤ x4 ∧ x4 ≤ 9223372036854775807) ∧ (0 ≤ x5 ∧ x5 ≤ 65535) ∧ (0 ≤ x6 ∧ x6 ≤ 65535) ∧ (0 ≤ x7 ∧ x7 ≤ 65535) ∧ (0 ≤ x8 ∧ x8 ≤ 65535) := by
  obtain ⟨hl, hf⟩ := td_struct Try.underlying29 (by kernel_rfl : Try.prog.cellsOf 29 = 9) h
  obtain ⟨_, _, g0⟩ := hf 0 _ rfl
  obtain ⟨y0, y1, e0, r0, r1⟩ := op_24 g0
  have e0' : (cs.drop 0).take 2 = _ := (congrArg (fun q => (cs.drop 0).take q) (by kernel_rfl : 2 = Try.prog.cellsOf 24)).trans e0
  obtain ⟨_, _, g1⟩ := hf 1 _ rfl
  obtain ⟨y2, y3, e1, r2, r3⟩ := op_24 g1
  have e1' : (cs.drop 2).take 2 = _ := (congrArg (fun q => (cs.drop 2).take q) (by kernel_rfl : 2 = Try.prog.cellsOf 24)).trans e1
  obtain ⟨_, _, g2⟩ := hf 2 _ rfl
  obtain ⟨y4, e2, r4⟩ := op_3 g2
  have e2' : (cs.drop 4).take 1 = _ := (congrArg (fun q => (cs.drop 4).take q) (by kernel_rfl : 1 = Try.prog.cellsOf 3)).trans e2
  obtain ⟨_, _, g3⟩ := hf 3 _ rfl
  obtain ⟨y5, y6, e3, r5, r6⟩ := op_27 g3
  have e3' : (cs.drop 5).take 2 = _ := (congrArg (fun q => (cs.drop 5).take q) (by kernel_rfl : 2 = Try.prog.cellsOf 27)).trans e3
  obtain ⟨_, _, g4⟩ := hf 4 _ rfl
  obtain ⟨y7, y8, e4, r7, r8⟩ := op_27 g4
  have e4' : (cs.drop 7).take 2 = _ := (congrArg (fun q => (cs.drop 7).take q) (by kernel_rfl : 2 = Try.prog.cellsOf 27)).trans e4
  clear hf h
  clear e0 g0 e1 g1 e2 g2 e3 g3 e4 g4
  obtain ⟨c0, c1, c2, c3, c4, c5, c6, c7, c8, rfl⟩ := list_9 hl
  simp only [List.drop_succ_cons, List.drop_zero, List.take_succ_cons, List.take_zero, List.cons.injEq, and_true] at e0'
  obtain ⟨rfl, rfl⟩ := e0'
  simp only [List.drop_succ_cons, List.drop_zero, List.take_succ_cons, List.take_zero, List.cons.injEq, and_true] at e1'
  obtain ⟨rfl, rfl⟩ := e1'
  simp only [List.drop_succ_cons, List.drop_zero, List.take_succ_cons, List.take_zero, List.cons.injEq, and_true] at e2'
  obtain rfl := e2'
  simp only [List.drop_succ_cons, List.drop_zero, List.take_succ_cons, List.take_zero, List.cons.injEq, and_true] at e3'
  obtain ⟨rfl, rfl⟩ := e3'
  simp only [List.drop_succ_cons, List.drop_zero, List.take_succ_cons, List.take_zero, List.cons.injEq, and_true] at e4'
  obtain ⟨rfl, rfl⟩ := e4'
  exact ⟨y0, y1, y2, y3, y4, y5, y6, y7, y8, rfl, r0, r1, r2, r3, r4, r5, r6, r7, r8⟩
theorem op_5 {H : Type} {enc : TypeId × Value → H} {w : World} {base : Nat} {sp : Nat → Bool} {held : Bool} {f : Nat} {cs : List Value} {x : DataW H × List MemPlace} (h : DataW.trod enc Try.prog w base sp held f 5 cs = some x) : ∃ x0 : Int, cs = [.int .u8 x0] ∧ (0 ≤ x0 ∧ x0 ≤ 255) := by
  obtain ⟨n, h1, h2⟩ := td_int Try.underlying5 h
  exact ⟨n, h1, h2⟩
theorem list_5 {l : List Value} (h : l.length = 5) : ∃ c0 c1 c2 c3 c4, l = [c0, c1, c2, c3, c4] := by
  match l, h with
  | [c0, c1, c2, c3, c4], _ => exact ⟨c0, c1, c2, c3, c4, rfl⟩
theorem op_31 {H : Type} {enc : TypeId × Value → H} {w : World} {base : Nat} {sp : Nat → Bool} {held : Bool} {f : Nat} {cs : List Value} {x : DataW H × List MemPlace} (h : DataW.trod enc Try.prog w base sp held f 31 cs = some x) : ∃ x0 : Int, ∃ x1 : Int, ∃ x2 : Int, ∃ x3 : Int, ∃ x4 : Int, cs = [.int .u32 x0, .int .u32 x1, .int .u8 x2, .int .u16 x3, .int .u16 x4] ∧ (0 ≤ x0 ∧ x0 ≤ 4294967295) ∧ (0 ≤ x1 ∧ x1 ≤ 4294967295) ∧ (0 ≤ x2 ∧ x2 ≤ 255) ∧ (0 ≤ x3 ∧ x3 ≤ 65535) ∧ (0 ≤ x4 ∧ x4 ≤ 65535) := by
  obtain ⟨hl, hf⟩ := td_struct Try.underlying31 (by kernel_rfl : Try.prog.cellsOf 31 = 5) h
  obtain ⟨_, _, g0⟩ := hf 0 _ rfl
  obtain ⟨y0, e0, r0⟩ := op_22 g0
  have e0' : (cs.drop 0).take 1 = _ := (congrArg (fun q => (cs.drop 0).take q) (by kernel_rfl : 1 = Try.prog.cellsOf 22)).trans e0
  obtain ⟨_, _, g1⟩ := hf 1 _ rfl
  obtain ⟨y1, e1, r1⟩ := op_22 g1
  have e1' : (cs.drop 1).take 1 = _ := (congrArg (fun q => (cs.drop 1).take q) (by kernel_rfl : 1 = Try.prog.cellsOf 22)).trans e1
  obtain ⟨_, _, g2⟩ := hf 2 _ rfl
  obtain ⟨y2, e2, r2⟩ := op_5 g2
  have e2' : (cs.drop 2).take 1 = _ := (congrArg (fun q => (cs.drop 2).take q) (by kernel_rfl : 1 = Try.prog.cellsOf 5)).trans e2
  obtain ⟨_, _, g3⟩ := hf 3 _ rfl
  obtain ⟨y3, e3, r3⟩ := op_25 g3
  have e3' : (cs.drop 3).take 1 = _ := (congrArg (fun q => (cs.drop 3).take q) (by kernel_rfl : 1 = Try.prog.cellsOf 25)).trans e3
  obtain ⟨_, _, g4⟩ := hf 4 _ rfl
  obtain ⟨y4, e4, r4⟩ := op_25 g4
  have e4' : (cs.drop 4).take 1 = _ := (congrArg (fun q => (cs.drop 4).take q) (by kernel_rfl : 1 = Try.prog.cellsOf 25)).trans e4
  clear hf h
  clear e0 g0 e1 g1 e2 g2 e3 g3 e4 g4
  obtain ⟨c0, c1, c2, c3, c4, rfl⟩ := list_5 hl
  simp only [List.drop_succ_cons, List.drop_zero, List.take_succ_cons, List.take_zero, List.cons.injEq, and_true] at e0'
  obtain rfl := e0'
  simp only [List.drop_succ_cons, List.drop_zero, List.take_succ_cons, List.take_zero, List.cons.injEq, and_true] at e1'
  obtain rfl := e1'
  simp only [List.drop_succ_cons, List.drop_zero, List.take_succ_cons, List.take_zero, List.cons.injEq, and_true] at e2'
  obtain rfl := e2'
  simp only [List.drop_succ_cons, List.drop_zero, List.take_succ_cons, List.take_zero, List.cons.injEq, and_true] at e3'
  obtain rfl := e3'
  simp only [List.drop_succ_cons, List.drop_zero, List.take_succ_cons, List.take_zero, List.cons.injEq, and_true] at e4'
  obtain rfl := e4'
  exact ⟨y0, y1, y2, y3, y4, rfl, r0, r1, r2, r3, r4⟩
namespace encFull
open Go.ChangeShapes Go.WideShapes Go.ChangeAt Go.RowKit
theorem own : ownKnob Try.prog.godebug = none := by kernel_rfl
theorem laidOut : laidOutB Try.prog = true := by kernel_rfl
set_option maxRecDepth 100000 in
theorem lifted (os : Os) (started : os.Started) (H : Type) (enc : TypeId × Value → H) :
    ReturnsInHanded {} Try.checked os 3 .any (Rows.encFullSpec.pre6 enc Try.prog Try.f3 Rows.encFullRow.domain false) (Rows.encFullSpec.post enc Try.prog Try.f3 false true false false) := by
  refine returnsInHanded_of_change (C := Try.checked) own started (by kernel_rfl) Try.func3
    (ChangeSpec.witness6 (enc := enc) (C := Try.checked) false ⟨#[], #[.agg #[.int .u32 0, .int .i64 0, .int .u32 0, .int .i64 0, .int .i64 0, .int .u16 0, .int .u16 0, .int .u16 0, .int .u16 0], .int .u8 0, .agg #[.int .u32 0, .int .u32 0, .int .u8 0, .int .u16 0, .int .u16 0]], []⟩ 8 (by kernel_rfl) (by kernel_rfl) (by kernel_rfl) (by kernel_rfl)) ?_
  intro W base args ds gs before hval0 hW hcnd _
  have hval : ∀ (j : Nat) t v, Try.f3.params[j]? = some t → args[j]? = some v → Value.okWide Try.prog W .any base t v := hval0
  have hW' := hW
  obtain ⟨p, q, hA0, hV, rfl, hfz, hnd⟩ := hW
  have hA : DataW.TrodAll enc Try.prog W 0 (fun _ => true) true Try.f3.params.toList args.toList ds p := hA0
  rw [Try.params3] at hA hval
  obtain ⟨v0, vs0, d0, ds0, p0, q0, hargs, rfl, rfl, h0, r0⟩ := trodAll_cons hA
  obtain ⟨v1, vs1, d1, ds1, p1, q1, rfl, rfl, rfl, h1, r1⟩ := trodAll_cons r0
  obtain ⟨v2, vs2, d2, ds2, p2, q2, rfl, rfl, rfl, h2, r2⟩ := trodAll_cons r1
  obtain ⟨rfl, rfl, rfl⟩ := trodAll_nil r2
  obtain rfl : args = #[v0, v1, v2] := by cases args; simp_all
  obtain ⟨rfl, rfl⟩ := trodVars_none hV
  have k0 := h0
  have lt0 : ∀ x ∈ p0, x.block < W.heap.size := by obtain ⟨m, hm⟩ := k0; exact DataW.trod_lt m _ _ _ hm
  obtain ⟨cs0, rfl, hz0⟩ := okWide_struct Try.underlying29 (hval 0 29 v0 rfl rfl)
  obtain ⟨fu0, hf0⟩ := h0
  obtain ⟨fda, fdb, fsa, fsb, fp, fsl, fsh, fdl, fdh, ec0, r_fda, r_fdb, r_fsa, r_fsb, r_fp, r_fsl, r_fsh, r_fdl, r_fdh⟩ := op_29 hf0
  obtain rfl : cs0 = #[.int .u32 fda, .int .i64 fdb, .int .u32 fsa, .int .i64 fsb, .int .i64 fp, .int .u16 fsl, .int .u16 fsh, .int .u16 fdl, .int .u16 fdh] := by cases cs0; simpa [Value.cells] using ec0
  have k1 := h1
  have lt1 : ∀ x ∈ p1, x.block < W.heap.size := by obtain ⟨m, hm⟩ := k1; exact DataW.trod_lt m _ _ _ hm
  obtain ⟨room, rfl, rfl, rfl, r_room⟩ := open_int Try.underlying5 (hval 1 5 v1 rfl rfl) h1
  have r_room : (0 ≤ room ∧ room ≤ 255) := by have q := r_room; simp only [Lit.wf, Bool.and_eq_true, decide_eq_true_eq] at q; exact q
  have k2 := h2
  have lt2 : ∀ x ∈ p2, x.block < W.heap.size := by obtain ⟨m, hm⟩ := k2; exact DataW.trod_lt m _ _ _ hm
  obtain ⟨cs2, rfl, hz2⟩ := okWide_struct Try.underlying31 (hval 2 31 v2 rfl rfl)
  obtain ⟨fu2, hf2⟩ := h2
  obtain ⟨hd, hs, hp, hsp, hdp, ec2, r_hd, r_hs, r_hp, r_hsp, r_hdp⟩ := op_31 hf2
  obtain rfl : cs2 = #[.int .u32 hd, .int .u32 hs, .int .u8 hp, .int .u16 hsp, .int .u16 hdp] := by cases cs2; simpa [Value.cells] using ec2
  clear hA0 hval0
  refine (c_EncFull (w := W) fda fdb fsa fsb fp fsl fsh fdl fdh room hd hs hp hsp hdp r_fda r_fsa ⟨r_fsl.1, r_fsh.2, r_fdl.1, r_fdh.2⟩ r_room ⟨⟨r_hd.1, by omega⟩, ⟨r_hs.1, by omega⟩, ⟨r_hp.1, by omega⟩, ⟨r_hsp.1, by omega⟩, ⟨r_hdp.1, by omega⟩⟩).mono fun e W' ⟨he, bel⟩ => ?_
  subst he
  exact ⟨_, rfl, _, _, _, [], _, [], hW', trodAll_mk1 (shut_bool Try.underlying4 _), (trodAll_cons_mk (Below.trod laidOut (by kernel_rfl) (of_decide_eq_true (by kernel_rfl)) k0 bel lt0) (trodAll_cons_mk (Below.trod laidOut (by kernel_rfl) (of_decide_eq_true (by kernel_rfl)) k1 bel lt1) (trodAll_cons_mk (Below.trod laidOut (by kernel_rfl) (of_decide_eq_true (by kernel_rfl)) k2 bel lt2) trodAll_mk0))), rfl, bel.frame _, fun h => by cases h⟩
theorem over : Rows.encFullRow.holds Try.pinned (OpenSpec.ofChange Rows.encFullSpec) :=
  OpenClaim.holds_of_wide 3 Try.f3 rfl rfl rfl rfl rfl rfl rfl ⟨rfl, rfl, rfl, rfl, rfl⟩ rfl rfl rfl rfl rfl (by kernel_rfl) Try.func3 (by kernel_rfl)
    (of_decide_eq_true (by kernel_rfl)) (by unfold Func.isWrapper; first | (rw [if_pos (by decide +kernel)]; kernel_rfl) | (rw [if_neg (by decide +kernel)]; exact ⟨rfl, rfl⟩))
    (fun os started H enc _ => lifted os started H enc)
theorem proved : Rows.EncFullSaid := over
end encFull
/-- The row, under a short name, for the claim. -/
theorem encFull_holds : Rows.EncFullSaid := encFull.proved
#print axioms encFull_holds
end Go.Proofs.Yticodddigaiipaa
