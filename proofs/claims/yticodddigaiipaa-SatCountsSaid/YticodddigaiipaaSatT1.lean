/-
 Contracts of functions of the given program, each proved by a walk through its code: what a call answers, and what it leaves of memory; conditions: those ahead of each theorem's colon.
-/
import Derived.Test.YticodddigaiipaaSatK12
import Derived.Test.YticodddigaiipaaProg
set_option linter.unusedVariables false
set_option linter.unusedSimpArgs false
namespace Go.Proofs.Yticodddigaiipaa
open Go.RowKit
theorem fa_31_0 (b off : Nat) (w : World) : (Instr.fieldAt 31 (.pointer (some ⟨b, off, none⟩)) 0).run Try.prog w = .ok (.pointer (some ⟨b, off, none⟩)) w := by kernel_rfl
theorem fa_31_1 (b off : Nat) (w : World) : (Instr.fieldAt 31 (.pointer (some ⟨b, off, none⟩)) 1).run Try.prog w = .ok (.pointer (some ⟨b, off + 1, none⟩)) w := by kernel_rfl
theorem fa_31_2 (b off : Nat) (w : World) : (Instr.fieldAt 31 (.pointer (some ⟨b, off, none⟩)) 2).run Try.prog w = .ok (.pointer (some ⟨b, off + 2, none⟩)) w := by kernel_rfl
theorem fa_31_3 (b off : Nat) (w : World) : (Instr.fieldAt 31 (.pointer (some ⟨b, off, none⟩)) 3).run Try.prog w = .ok (.pointer (some ⟨b, off + 3, none⟩)) w := by kernel_rfl
theorem fa_31_4 (b off : Nat) (w : World) : (Instr.fieldAt 31 (.pointer (some ⟨b, off, none⟩)) 4).run Try.prog w = .ok (.pointer (some ⟨b, off + 4, none⟩)) w := by kernel_rfl
theorem zv_57 (w : World) : (zeroValue 57).run Try.prog w = .ok (.agg #[.int .u64 0, .int .u64 0]) w := by kernel_rfl
theorem bd_57_1Iu64 (x0 : Int) (w : World) : (Instr.build 57 #[(1, .int .u64 x0)]).run Try.prog w = .ok (.agg #[.int .u64 0, .int .u64 x0]) w := by kernel_rfl
theorem bd_57_  (w : World) : (Instr.build 57 #[]).run Try.prog w = .ok (.agg #[.int .u64 0, .int .u64 0]) w := by kernel_rfl
theorem sh_57 : Try.prog.stoodInHeld 57 = false := by kernel_rfl
theorem eq_57 (d : Nat) (w : World) (x0 y0 : Int) (x1 y1 : Int) : (Op.equalIn (d + 2) 57 (.agg #[.int .u64 x0, .int .u64 x1]) (.agg #[.int .u64 y0, .int .u64 y1])).run Try.prog w = .ok (x0 == y0 && (x1 == y1 && true)) w := by
 refine eqs_of Try.underlying57 sh_57 ?_
 refine eqs_cons rfl (part1 (Try.isAgg55 w) rfl) (part1 (Try.isAgg55 w) rfl) (eqs_int (d := d + 0) Try.underlying55) ?_
 refine eqs_cons rfl (part1 (Try.isAgg55 w) rfl) (part1 (Try.isAgg55 w) rfl) (eqs_int (d := d + 0) Try.underlying55) ?_
 exact eqs_nil
theorem eg_57 : Try.prog.eqGuardType Try.prog.depth 57 = false := by kernel_rfl
theorem zv_61 (w : World) : (zeroValue 61).run Try.prog w = .ok (.agg #[.int .u64 0, .int .u64 0]) w := by kernel_rfl
theorem fa_61_1 (b off : Nat) (w : World) : (Instr.fieldAt 61 (.pointer (some ⟨b, off, none⟩)) 1).run Try.prog w = .ok (.pointer (some ⟨b, off + 1, none⟩)) w := by kernel_rfl
theorem fa_61_0 (b off : Nat) (w : World) : (Instr.fieldAt 61 (.pointer (some ⟨b, off, none⟩)) 0).run Try.prog w = .ok (.pointer (some ⟨b, off, none⟩)) w := by kernel_rfl
theorem bd_61_0Iu64_1Iu64 (x0 : Int) (x1 : Int) (w : World) : (Instr.build 61 #[(0, .int .u64 x0), (1, .int .u64 x1)]).run Try.prog w = .ok (.agg #[.int .u64 x0, .int .u64 x1]) w := by kernel_rfl
theorem fa_57_1 (b off : Nat) (w : World) : (Instr.fieldAt 57 (.pointer (some ⟨b, off, none⟩)) 1).run Try.prog w = .ok (.pointer (some ⟨b, off + 1, none⟩)) w := by kernel_rfl
theorem bd_57_0Iu64 (x0 : Int) (w : World) : (Instr.build 57 #[(0, .int .u64 x0)]).run Try.prog w = .ok (.agg #[.int .u64 x0, .int .u64 0]) w := by kernel_rfl
theorem fa_57_0 (b off : Nat) (w : World) : (Instr.fieldAt 57 (.pointer (some ⟨b, off, none⟩)) 0).run Try.prog w = .ok (.pointer (some ⟨b, off, none⟩)) w := by kernel_rfl
theorem bd_57_0Iu64_1Iu64 (x0 : Int) (x1 : Int) (w : World) : (Instr.build 57 #[(0, .int .u64 x0), (1, .int .u64 x1)]).run Try.prog w = .ok (.agg #[.int .u64 x0, .int .u64 x1]) w := by kernel_rfl
theorem mixed : Try.prog.follows .mixedOrders = true := by kernel_rfl
def mask (n : Int) : Int := if n ≤ 0 then 0 else IntKind.u32.wrap (4294967295 * 2 ^ min (32 - (if 32 < n then 32 else n)).toNat IntKind.u32.bits)
def right (pa : Int) (pb : Int) : Bool := ((decide (0 ≤ pb)) && (decide (pb ≤ 32))) && (decide ((ibits .andNot .u32 pa (mask pb)) = 0))
def has (pa : Int) (pb : Int) (x : Int) : Bool := decide ((ibits .and .u32 (ibits .xor .u32 x pa) (mask pb)) = 0)
def ahead (xi : Int) (xd : Int) (xa : Int) (xb : Int) (xp : Int) (xo : Int) (yi : Int) (yd : Int) (ya : Int) (yb : Int) (yp : Int) (yo : Int) : Bool := if xp ≠ yp then decide (yp < xp) else if xb ≠ yb then decide (yb < xb) else decide (xi < yi)
def wof (n : Int) : Int × Int := (0, n)
set_option maxRecDepth 100000 in
set_option maxHeartbeats 4000000 in
theorem c_wof (n : Int) (w : World) : Calls Try.prog 105 #[.int .u64 n] w fun e w' => e = .returned (.agg #[.int .u64 (wof n).1, .int .u64 (wof n).2]) ∧ Ext w w' := by
 refine enter 5 Try.ntmps105 Try.func105 rfl (Nat.le_of_ble_eq_true rfl) fun a0 d0 z0 hargs => ?_
 have s0_0 : a0.eval (.tmp 0) = .int .u64 n := hargs 0 _ rfl
 have x0 := Touch.refl NoF w
 refine wp_seq ?_
 refine seq_begin ?_
 refine salloc z0 rfl (zv_57 _) ?_; intro b1 w1 a1 t1 g1 hb1 u1 z1
 have yb1_2 := Nat.le_trans (Touch.size x0) g1
 have d3 := (u1.defs.trans d0)
 refine seq_end ?_
 refine then_norm ?_
 refine wp_seq ?_
 refine seq_begin ?_
 refine sp z1 rfl rfl (ex_move ((u1.past 0 rfl).trans s0_0)) ?_; intro a4 u4 z4
 refine sp z4 rfl rfl (exl_build (cons_parts (u4.here _ rfl) nil_parts) (bd_57_1Iu64 n _)) ?_; intro a5 u5 z5
 refine sstore (cs := [.int .u64 0, .int .u64 0]) (vs := [.int .u64 0, .int .u64 n]) (cs' := [.int .u64 0, .int .u64 n]) z5 rfl ((u5.past 2 rfl).trans ((u4.past 2 rfl).trans (u1.here _ rfl))) (u5.here _ rfl) hb1 (Try.sizeOf57 _) rfl rfl (by decide) (Nat.le_of_ble_eq_true rfl) rfl rfl ?_; intro w6 a6 t6 u6 z6
 have d7 := (u6.defs.trans (u5.defs.trans (u4.defs.trans d3)))
 refine seq_end ?_
 refine then_norm ?_
 refine wp_ret ?_
 have s8_2 : a1.eval (.tmp 2) = .pointer (some ⟨b1, 0, none⟩) := (u1.here _ rfl)
 have s9_2 := ((u6.past 2 rfl).trans ((u5.past 2 rfl).trans ((u4.past 2 rfl).trans s8_2)))
 repeat (first | (with_reducible refine then_ret ?_) | (with_reducible refine block_ret ?_))
 refine retl (rs := [.cell 2 57]) Try.results105 ⟨⟨_, s9_2, run_loadVarA (cs := [.int .u64 0, .int .u64 n]) (Try.isAgg57 _) (Try.sizeOf57 _) (cells_of (off := 0) t6.here rfl)⟩, trivial⟩ d7 ?_
 have x10 := (Touch.turn (Touch.trans x0 (Ext.touch t1)) t6 (Or.inr yb1_2))
 exact ⟨by unfold wof; rfl, x10.ext⟩

def wzero (ch : Int) (cl : Int) : Bool := ch == 0 && (cl == 0 && true)
set_option maxRecDepth 100000 in
set_option maxHeartbeats 4000000 in
theorem c_wzero (ch : Int) (cl : Int) (w : World) : Calls Try.prog 26 #[.agg #[.int .u64 ch, .int .u64 cl]] w fun e w' => e = .returned (.bool (wzero ch cl)) ∧ Ext w w' := by
 refine enter 6 Try.ntmps26 Try.func26 rfl (Nat.le_of_ble_eq_true rfl) fun a0 d0 z0 hargs => ?_
 have s0_0 : a0.eval (.tmp 0) = .agg #[.int .u64 ch, .int .u64 cl] := hargs 0 _ rfl
 have x0 := Touch.refl NoF w
 refine wp_seq ?_
 refine seq_begin ?_
 refine sbox z0 rfl s0_0 ?_; intro b1 w1 a1 t1 g1 hb1 u1 z1
 have yb1_2 := Nat.le_trans (Touch.size x0) g1
 refine sp z1 rfl rfl (ex_assign rfl) ?_; intro a3 u3 z3
 have d4 := (u3.defs.trans (u1.defs.trans d0))
 refine seq_end ?_
 refine then_norm ?_
 have s5_1 : a1.eval (.tmp 1) = .pointer (some ⟨b1, 0, none⟩) := (u1.here _ rfl)
 have s6_1 := ((u3.past 1 rfl).trans s5_1)
 refine rgs mixed 6 [.eq (.agg #[.int .u64 ch, .int .u64 cl]), .eq (.agg #[.int .u64 0, .int .u64 0]), .eq (.bool (ch == 0 && (cl == 0 && true))), .eq (.bool (ch == 0 && (cl == 0 && true)))] [[(1, none)], [], [(3, some 0), (4, some 1)], [(5, some 2)]] d4 z3 (by kernel_rfl) ⟨Ov rfl rfl fun _ _ T ⟨k1, _⟩ => ex_loadAgg (cs := [.int .u64 ch, .int .u64 cl]) (k1.trans s6_1) (Try.isAgg57 _) (Try.sizeOf57 _) (cells_of (off := 0) (Ext.keep T.ext hb1) rfl),
  Ov rfl rfl fun _ _ T _ => exl_build nil_parts (bd_57_ _),
  Ov rfl rfl fun _ _ T ⟨k3, k4, _⟩ => ex_binOp k3 k4 (eqs_eql eg_57 (eq_57 9998 _ ch 0 cl 0)),
  Ov rfl rfl fun _ _ T ⟨k5, _⟩ => ex_assign k5,
  trivial⟩ ?_
 intro a7 w7 d7 z7 t7 e7 q7
 refine wp_ret ?_
 have s8_2 : a7.eval (.tmp 2) = .bool (ch == 0 && (cl == 0 && true)) := e7.2.2.2.1
 repeat (first | (with_reducible refine then_ret ?_) | (with_reducible refine block_ret ?_))
 refine retl (rs := [.tmp 2]) Try.results26 ⟨s8_2, trivial⟩ d7 ?_
 have x9 := (Touch.trans (Touch.trans x0 (Ext.touch t1)) (Ext.touch t7))
 exact ⟨by unfold wzero; rfl, x9.ext⟩

def radd (ch : Int) (cl : Int) (dh : Int) (dl : Int) : Int × Int := if (IntKind.u64.wrap (cl + dl)) < cl then (IntKind.u64.wrap ((IntKind.u64.wrap (ch + dh)) + 1), IntKind.u64.wrap (cl + dl)) else (IntKind.u64.wrap (ch + dh), IntKind.u64.wrap (cl + dl))
set_option maxRecDepth 100000 in
set_option maxHeartbeats 4000000 in
theorem c_radd (ch : Int) (cl : Int) (dh : Int) (dl : Int) (w : World) : Calls Try.prog 111 #[.agg #[.int .u64 ch, .int .u64 cl], .agg #[.int .u64 dh, .int .u64 dl]] w fun e w' => e = .returned (.agg #[.int .u64 (radd ch cl dh dl).1, .int .u64 (radd ch cl dh dl).2]) ∧ Ext w w' := by
 refine enter 26 Try.ntmps111 Try.func111 rfl (Nat.le_of_ble_eq_true rfl) fun a0 d0 z0 hargs => ?_
 have s0_0 : a0.eval (.tmp 0) = .agg #[.int .u64 ch, .int .u64 cl] := hargs 0 _ rfl
 have s0_1 : a0.eval (.tmp 1) = .agg #[.int .u64 dh, .int .u64 dl] := hargs 1 _ rfl
 have x0 := Touch.refl NoF w
 refine wp_seq ?_
 refine seq_begin ?_
 refine sbox z0 rfl s0_0 ?_; intro b1 w1 a1 t1 g1 hb1 u1 z1
 have yb1_2 := Nat.le_trans (Touch.size x0) g1
 refine sbox z1 rfl ((u1.past 1 rfl).trans s0_1) ?_; intro b3 w3 a3 t3 g3 hb3 u3 z3
 have n4_b1_b3 := ne_lt (lt_of hb1) g3
 have x6 := (Touch.trans x0 (Ext.touch t1))
 have yb3_5 := Nat.le_trans (Touch.size x6) g3
 refine salloc z3 rfl (zv_61 _) ?_; intro b7 w7 a7 t7 g7 hb7 u7 z7
 have hb1_9 := (Ext.keep t3 hb1)
 have n8_b1_b7 := ne_lt (lt_of hb1_9) g7
 have n10_b3_b7 := ne_lt (lt_of hb3) g7
 have x12 := (Touch.trans x6 (Ext.touch t3))
 have yb7_11 := Nat.le_trans (Touch.size x12) g7
 have d13 := (u7.defs.trans (u3.defs.trans (u1.defs.trans d0)))
 refine seq_end ?_
 refine then_norm ?_
 have s14_2 : a1.eval (.tmp 2) = .pointer (some ⟨b1, 0, none⟩) := (u1.here _ rfl)
 have s15_2 := ((u7.past 2 rfl).trans ((u3.past 2 rfl).trans s14_2))
 have hb1_16 := (Ext.keep t7 hb1_9)
 have s17_3 : a3.eval (.tmp 3) = .pointer (some ⟨b3, 0, none⟩) := (u3.here _ rfl)
 have s18_3 := ((u7.past 3 rfl).trans s17_3)
 have hb3_19 := (Ext.keep t7 hb3)
 refine rgs mixed 26 [.eq (.pointer (some ⟨b1, 1, none⟩)), .eq (.int .u64 cl), .eq (.pointer (some ⟨b3, 1, none⟩)), .eq (.int .u64 dl), .eq (.int .u64 (IntKind.u64.wrap (cl + dl))), .eq (.int .u64 (IntKind.u64.wrap (cl + dl)))] [[(2, none)], [(7, some 0)], [(3, none)], [(9, some 2)], [(8, some 1), (10, some 3)], [(11, some 4)]] d13 z7 (by kernel_rfl) ⟨Ov rfl rfl fun _ _ T ⟨k2, _⟩ => ex_fieldAddr (k2.trans s15_2) (fa_61_1 _ _ _),
  Ov rfl rfl fun _ _ T ⟨k7, _⟩ => ex_load k7 (Try.isAgg55 _) (cell_of (Ext.keep T.ext hb1_16) rfl),
  Ov rfl rfl fun _ _ T ⟨k3, _⟩ => ex_fieldAddr (k3.trans s18_3) (fa_61_1 _ _ _),
  Ov rfl rfl fun _ _ T ⟨k9, _⟩ => ex_load k9 (Try.isAgg55 _) (cell_of (Ext.keep T.ext hb3_19) rfl),
  Ov rfl rfl fun _ _ T ⟨k8, k10, _⟩ => ex_add k8 k10,
  Ov rfl rfl fun _ _ T ⟨k11, _⟩ => ex_assign k11,
  trivial⟩ ?_
 intro a20 w20 d20 z20 t20 e20 q20
 have s21_2 := ((q20 2 rfl).trans s15_2)
 have hb1_22 := (Ext.keep t20 hb1_16)
 have s23_3 := ((q20 3 rfl).trans s18_3)
 have hb3_24 := (Ext.keep t20 hb3_19)
 refine rgs mixed 26 [.eq (.pointer (some ⟨b1, 0, none⟩)), .eq (.int .u64 ch), .eq (.pointer (some ⟨b3, 0, none⟩)), .eq (.int .u64 dh), .eq (.int .u64 (IntKind.u64.wrap (ch + dh))), .eq (.int .u64 (IntKind.u64.wrap (ch + dh)))] [[(2, none)], [(12, some 0)], [(3, none)], [(14, some 2)], [(13, some 1), (15, some 3)], [(16, some 4)]] d20 z20 (by kernel_rfl) ⟨Ov rfl rfl fun _ _ T ⟨k2, _⟩ => ex_fieldAddr (k2.trans s21_2) (fa_61_0 _ _ _),
  Ov rfl rfl fun _ _ T ⟨k12, _⟩ => ex_load k12 (Try.isAgg55 _) (cell_of (Ext.keep T.ext hb1_22) rfl),
  Ov rfl rfl fun _ _ T ⟨k3, _⟩ => ex_fieldAddr (k3.trans s23_3) (fa_61_0 _ _ _),
  Ov rfl rfl fun _ _ T ⟨k14, _⟩ => ex_load k14 (Try.isAgg55 _) (cell_of (Ext.keep T.ext hb3_24) rfl),
  Ov rfl rfl fun _ _ T ⟨k13, k15, _⟩ => ex_add k13 k15,
  Ov rfl rfl fun _ _ T ⟨k16, _⟩ => ex_assign k16,
  trivial⟩ ?_
 intro a25 w25 d25 z25 t25 e25 q25
 refine wp_seq_k fun K26 hK26 => ?_
 have s27_5 : a20.eval (.tmp 5) = .int .u64 (IntKind.u64.wrap (cl + dl)) := e20.2.2.2.2.2.1
 have s28_5 := ((q25 5 rfl).trans s27_5)
 have s29_2 := ((q25 2 rfl).trans s21_2)
 have hb1_30 := (Ext.keep t25 hb1_22)
 refine rgs mixed 26 [.eq (.int .u64 (IntKind.u64.wrap (cl + dl))), .eq (.pointer (some ⟨b1, 1, none⟩)), .eq (.int .u64 cl), .eq (.bool (decide ((IntKind.u64.wrap (cl + dl)) < cl)))] [[(5, none)], [(2, none)], [(18, some 1)], [(17, some 0), (19, some 2)]] d25 z25 (by kernel_rfl) ⟨Ov rfl rfl fun _ _ T ⟨k5, _⟩ => ex_move (k5.trans s28_5),
  Ov rfl rfl fun _ _ T ⟨k2, _⟩ => ex_fieldAddr (k2.trans s29_2) (fa_61_1 _ _ _),
  Ov rfl rfl fun _ _ T ⟨k18, _⟩ => ex_load k18 (Try.isAgg55 _) (cell_of (Ext.keep T.ext hb1_30) rfl),
  Ov rfl rfl fun _ _ T ⟨k17, k19, _⟩ => ex_lss k17 k19,
  trivial⟩ ?_
 intro a31 w31 d31 z31 t31 e31 q31
 have hb7_32 := (Ext.keep t31 (Ext.keep t25 (Ext.keep t20 hb7)))
 have x33 := (Touch.trans (Touch.trans (Touch.trans (Touch.trans x12 (Ext.touch t7)) (Ext.touch t20)) (Ext.touch t25)) (Ext.touch t31))
 by_cases c34 : (IntKind.u64.wrap (cl + dl)) < cl
 ·have y34 := decide_eq_true c34
  have s35_20 : a31.eval (.tmp 20) = .bool (decide ((IntKind.u64.wrap (cl + dl)) < cl)) := e31.2.2.2.1
  refine wp_cond_true (s35_20.trans (by rw [y34])) ?_
  have s36_6 : a25.eval (.tmp 6) = .int .u64 (IntKind.u64.wrap (ch + dh)) := e25.2.2.2.2.2.1
  have s37_6 := ((q31 6 rfl).trans s36_6)
  refine rg mixed 26 [.eq (.int .u64 (IntKind.u64.wrap (ch + dh))), .eq (.int .u64 (IntKind.u64.wrap ((IntKind.u64.wrap (ch + dh)) + 1))), .eq (.int .u64 (IntKind.u64.wrap ((IntKind.u64.wrap (ch + dh)) + 1)))] [[(6, none)], [(21, some 0)], [(22, some 1)]] d31 z31 (by kernel_rfl) ⟨Ov rfl rfl fun _ _ T ⟨k6, _⟩ => ex_move (k6.trans s37_6), Ov rfl rfl fun _ _ T ⟨k21, _⟩ => ex_add k21 rfl, Ov rfl rfl fun _ _ T ⟨k22, _⟩ => ex_assign k22, trivial⟩ ?_
  intro a38 w38 d38 z38 t38 e38 q38
  repeat (with_reducible refine block_norm ?_)
  refine hK26 _ _ ?_
  refine wp_seq ?_
  refine seq_begin ?_
  refine sp z38 rfl rfl (ex_move e38.2.2.1) ?_; intro a39 u39 z39
  refine sp z39 rfl rfl (ex_move ((u39.past 5 rfl).trans ((q38 5 rfl).trans ((q31 5 rfl).trans s28_5)))) ?_; intro a40 u40 z40
  refine sp z40 rfl rfl (exl_build (cons_parts ((u40.past 23 rfl).trans (u39.here _ rfl)) (cons_parts (u40.here _ rfl) nil_parts)) (bd_61_0Iu64_1Iu64 (IntKind.u64.wrap ((IntKind.u64.wrap (ch + dh)) + 1)) (IntKind.u64.wrap (cl + dl)) _)) ?_; intro a41 u41 z41
  have p43 := fr4 q25 q31 q38 u39.past
  have hb7_44 := (Ext.keep t38 hb7_32)
  refine sstore (cs := [.int .u64 0, .int .u64 0]) (vs := [.int .u64 (IntKind.u64.wrap ((IntKind.u64.wrap (ch + dh)) + 1)), .int .u64 (IntKind.u64.wrap (cl + dl))]) (cs' := [.int .u64 (IntKind.u64.wrap ((IntKind.u64.wrap (ch + dh)) + 1)), .int .u64 (IntKind.u64.wrap (cl + dl))]) z41 rfl ((u41.past 4 rfl).trans ((u40.past 4 rfl).trans ((p43 4 rfl).trans ((q20 4 rfl).trans (u7.here _ rfl))))) (u41.here _ rfl) hb7_44 (Try.sizeOf61 _) rfl rfl (by decide) (Nat.le_of_ble_eq_true rfl) rfl rfl ?_; intro w42 a42 t42 u42 z42
  have d45 := (u42.defs.trans (u41.defs.trans (u40.defs.trans (u39.defs.trans d38))))
  refine seq_end ?_
  refine then_norm ?_
  refine wp_ret ?_
  have s46_4 : a7.eval (.tmp 4) = .pointer (some ⟨b7, 0, none⟩) := (u7.here _ rfl)
  have s47_4 := ((u42.past 4 rfl).trans ((u41.past 4 rfl).trans ((u40.past 4 rfl).trans ((p43 4 rfl).trans ((q20 4 rfl).trans s46_4)))))
  repeat (first | (with_reducible refine then_ret ?_) | (with_reducible refine block_ret ?_))
  refine retl (rs := [.cell 4 61]) Try.results111 ⟨⟨_, s47_4, run_loadVarA (cs := [.int .u64 (IntKind.u64.wrap ((IntKind.u64.wrap (ch + dh)) + 1)), .int .u64 (IntKind.u64.wrap (cl + dl))]) (Try.isAgg61 _) (Try.sizeOf61 _) (cells_of (off := 0) t42.here rfl)⟩, trivial⟩ d45 ?_
  have x48 := (Touch.turn (Touch.trans x33 (Ext.touch t38)) t42 (Or.inr yb7_11))
  exact ⟨by unfold radd; rw [if_pos c34], x48.ext⟩
 ·have y34 := decide_eq_false c34
  have s49_20 : a31.eval (.tmp 20) = .bool (decide ((IntKind.u64.wrap (cl + dl)) < cl)) := e31.2.2.2.1
  refine wp_cond_false (s49_20.trans (by rw [y34])) ?_
  refine wp_skip ?_
  repeat (with_reducible refine block_norm ?_)
  refine hK26 _ _ ?_
  refine wp_seq ?_
  refine seq_begin ?_
  refine sp z31 rfl rfl (ex_move ((q31 6 rfl).trans e25.2.2.2.2.2.1)) ?_; intro a50 u50 z50
  refine sp z50 rfl rfl (ex_move ((u50.past 5 rfl).trans ((q31 5 rfl).trans s28_5))) ?_; intro a51 u51 z51
  refine sp z51 rfl rfl (exl_build (cons_parts ((u51.past 23 rfl).trans (u50.here _ rfl)) (cons_parts (u51.here _ rfl) nil_parts)) (bd_61_0Iu64_1Iu64 (IntKind.u64.wrap (ch + dh)) (IntKind.u64.wrap (cl + dl)) _)) ?_; intro a52 u52 z52
  have p54 := fr4 q25 q31 u50.past u51.past
  refine sstore (cs := [.int .u64 0, .int .u64 0]) (vs := [.int .u64 (IntKind.u64.wrap (ch + dh)), .int .u64 (IntKind.u64.wrap (cl + dl))]) (cs' := [.int .u64 (IntKind.u64.wrap (ch + dh)), .int .u64 (IntKind.u64.wrap (cl + dl))]) z52 rfl ((u52.past 4 rfl).trans ((p54 4 rfl).trans ((q20 4 rfl).trans (u7.here _ rfl)))) (u52.here _ rfl) hb7_32 (Try.sizeOf61 _) rfl rfl (by decide) (Nat.le_of_ble_eq_true rfl) rfl rfl ?_; intro w53 a53 t53 u53 z53
  have d55 := (u53.defs.trans (u52.defs.trans (u51.defs.trans (u50.defs.trans d31))))
  refine seq_end ?_
  refine then_norm ?_
  refine wp_ret ?_
  have s56_4 : a7.eval (.tmp 4) = .pointer (some ⟨b7, 0, none⟩) := (u7.here _ rfl)
  have s57_4 := ((u53.past 4 rfl).trans ((u52.past 4 rfl).trans ((p54 4 rfl).trans ((q20 4 rfl).trans s56_4))))
  repeat (first | (with_reducible refine then_ret ?_) | (with_reducible refine block_ret ?_))
  refine retl (rs := [.cell 4 61]) Try.results111 ⟨⟨_, s57_4, run_loadVarA (cs := [.int .u64 (IntKind.u64.wrap (ch + dh)), .int .u64 (IntKind.u64.wrap (cl + dl))]) (Try.isAgg61 _) (Try.sizeOf61 _) (cells_of (off := 0) t53.here rfl)⟩, trivial⟩ d55 ?_
  have x58 := (Touch.turn x33 t53 (Or.inr yb7_11))
  exact ⟨by unfold radd; rw [if_neg c34], x58.ext⟩

def short (kind : Int) (f : Int) (g : Int) : Int × Bool := if kind = 0 then if ((decide (f = 0)) || (decide (g = 0))) = true then (0, true) else if ((decide (f = 1)) || (decide (f = g))) = true then (g, true) else if g = 1 then (f, true) else (0, false) else if kind = 1 then if ((decide (f = 1)) || (decide (g = 1))) = true then (1, true) else if ((decide (f = 0)) || (decide (f = g))) = true then (g, true) else if g = 0 then (f, true) else (0, false) else if kind = 2 then if f = g then (0, true) else if f = 0 then (g, true) else if g = 0 then (f, true) else (0, false) else if (((decide (f = 0)) || (decide (g = 1))) || (decide (f = g))) = true then (0, true) else if g = 0 then (f, true) else (0, false)
set_option maxRecDepth 100000 in
set_option maxHeartbeats 4000000 in
theorem c_short (kind : Int) (f : Int) (g : Int) (w : World) : Calls Try.prog 131 #[.int .i64 kind, .int .i64 f, .int .i64 g] w fun e w' => e = .returned (.tuple #[.int .i64 (short kind f g).1, .bool (short kind f g).2]) ∧ Ext w w' := by
 refine enter 83 Try.ntmps131 Try.func131 rfl (Nat.le_of_ble_eq_true rfl) fun a0 d0 z0 hargs => ?_
 have s0_0 : a0.eval (.tmp 0) = .int .i64 kind := hargs 0 _ rfl
 have s0_1 : a0.eval (.tmp 1) = .int .i64 f := hargs 1 _ rfl
 have s0_2 : a0.eval (.tmp 2) = .int .i64 g := hargs 2 _ rfl
 have x0 := Touch.refl NoF w
 refine rgs mixed 83 [.eq (.int .i64 0), .eq (.bool false)] [[], []] d0 z0 (by kernel_rfl) ⟨Ov rfl rfl fun _ _ T _ => ex_assign rfl, Ov rfl rfl fun _ _ T _ => ex_assign rfl, trivial⟩ ?_
 intro a1 w1 d1 z1 t1 e1 q1
 refine wp_seq_k fun K2 hK2 => ?_
 have s3_0 := ((q1 0 rfl).trans s0_0)
 refine rgs mixed 83 [.eq (.int .i64 kind)] [[(0, none)]] d1 z1 (by kernel_rfl) ⟨Ov rfl rfl fun _ _ T ⟨k0, _⟩ => ex_move (k0.trans s3_0), trivial⟩ ?_
 intro a4 w4 d4 z4 t4 e4 q4
 refine wp_block ?_
 have s5_8 : a4.eval (.tmp 8) = .int .i64 kind := e4.1
 refine rgs mixed 83 [.eq (.bool (decide (kind = 0))), .eq (.bool (decide (kind = 0)))] [[(8, none)], [(26, some 0)]] d4 z4 (by kernel_rfl) ⟨Ov rfl rfl fun _ _ T ⟨k8, _⟩ => ex_eql (k8.trans s5_8) rfl, Ov rfl rfl fun _ _ T ⟨k26, _⟩ => ex_assign k26, trivial⟩ ?_
 intro a6 w6 d6 z6 t6 e6 q6
 have x7 := (Touch.trans (Touch.trans (Touch.trans x0 (Ext.touch t1)) (Ext.touch t4)) (Ext.touch t6))
 by_cases c8 : kind = 0
 ·have y8 := decide_eq_true c8
  have s9_25 : a6.eval (.tmp 25) = .bool (decide (kind = 0)) := e6.2.1
  refine wp_cond_true (s9_25.trans (by rw [y8])) ?_
  refine wp_block ?_
  have s10_1 := ((q6 1 rfl).trans ((q4 1 rfl).trans ((q1 1 rfl).trans s0_1)))
  have s11_2 := ((q6 2 rfl).trans ((q4 2 rfl).trans ((q1 2 rfl).trans s0_2)))
  refine rgs mixed 83 [.eq (.int .i64 f), .eq (.bool (decide (f = 0))), .eq (.bool (decide (f = 0))), .eq (if (decide (f = 0)) = false then .int .i64 g else undef), .eq (if (decide (f = 0)) = false then .bool (decide (g = 0)) else undef), .eq (.bool ((decide (f = 0)) || (decide (g = 0)))), .eq (.bool ((decide (f = 0)) || (decide (g = 0))))] [[(1, none)], [(28, some 0)], [(29, some 1)], [(2, none), (30, some 2)], [(31, some 3), (30, some 2)], [(30, some 2), (32, some 4)], [(33, some 5)]] d6 z6 (by kernel_rfl) ⟨Ov rfl rfl fun _ _ T ⟨k1, _⟩ => ex_move (k1.trans s10_1),
   Ov rfl rfl fun _ _ T ⟨k28, _⟩ => ex_eql k28 rfl,
   Ov rfl rfl fun _ _ T ⟨k29, _⟩ => ex_move k29,
   Og rfl rfl rfl fun _ _ T ⟨k2, k30, _⟩ => ⟨k30, fun hcQ => ex_move (k2.trans s11_2)⟩,
   Og rfl rfl rfl fun _ _ T ⟨k31, k30, _⟩ => ⟨k30, fun hcQ => ex_eql (k31.trans (if_pos hcQ)) rfl⟩,
   Ov rfl rfl fun _ _ T ⟨k30, k32, _⟩ => ex_pick_or k30 rfl k32,
   Ov rfl rfl fun _ _ T ⟨k33, _⟩ => ex_assign k33,
   trivial⟩ ?_
  intro a12 w12 d12 z12 t12 e12 q12
  rcases Bool.eq_false_or_eq_true ((decide (f = 0)) || (decide (g = 0))) with y13 | y13
  ·have c13 := y13; try simp only [Bool.and_eq_true, Bool.or_eq_true, Bool.and_eq_false_iff, Bool.or_eq_false_iff, Bool.not_eq_true', Bool.not_eq_false', decide_eq_true_eq, decide_eq_false_iff_not] at c13
   have s14_27 : a12.eval (.tmp 27) = .bool ((decide (f = 0)) || (decide (g = 0))) := e12.2.2.2.2.2.2.1
   refine wp_cond_true (s14_27.trans (by rw [y13])) ?_
   refine rgs mixed 83 [.eq (.int .i64 0), .eq (.bool true)] [[], []] d12 z12 (by kernel_rfl) ⟨Ov rfl rfl fun _ _ T _ => ex_assign rfl, Ov rfl rfl fun _ _ T _ => ex_assign rfl, trivial⟩ ?_
   intro a15 w15 d15 z15 t15 e15 q15
   refine wp_ret ?_
   have s16_6 : a15.eval (.tmp 6) = .int .i64 0 := e15.1
   have s17_7 : a15.eval (.tmp 7) = .bool true := e15.2.1
   repeat (first | (with_reducible refine then_ret ?_) | (with_reducible refine block_ret ?_))
   refine rett (rs := [.tmp 6, .tmp 7]) (vs := [.int .i64 0, .bool true]) Try.results131 ⟨s16_6, ⟨s17_7, trivial⟩⟩ (by simp) d15 ?_
   have x18 := (Touch.trans (Touch.trans x7 (Ext.touch t12)) (Ext.touch t15))
   exact ⟨by unfold short; rw [if_pos c8, if_pos y13], x18.ext⟩
  ·have c13 := y13; try simp only [Bool.and_eq_true, Bool.or_eq_true, Bool.and_eq_false_iff, Bool.or_eq_false_iff, Bool.not_eq_true', Bool.not_eq_false', decide_eq_true_eq, decide_eq_false_iff_not] at c13
   have s19_27 : a12.eval (.tmp 27) = .bool ((decide (f = 0)) || (decide (g = 0))) := e12.2.2.2.2.2.2.1
   refine wp_cond_false (s19_27.trans (by rw [y13])) ?_
   have s20_1 := ((q12 1 rfl).trans s10_1)
   have s21_2 := ((q12 2 rfl).trans s11_2)
   refine rgs mixed 83 [.eq (.int .i64 f), .eq (.bool (decide (f = 1))), .eq (.bool (decide (f = 1))), .eq (if (decide (f = 1)) = false then .int .i64 f else undef), .eq (if (decide (f = 1)) = false then .int .i64 g else undef), .eq (if (decide (f = 1)) = false then .bool (decide (f = g)) else undef), .eq (.bool ((decide (f = 1)) || (decide (f = g)))), .eq (.bool ((decide (f = 1)) || (decide (f = g))))] [[(1, none)], [(35, some 0)], [(36, some 1)], [(1, none), (37, some 2)], [(2, none), (37, some 2)], [(38, some 3), (39, some 4), (37, some 2)], [(37, some 2), (40, some 5)], [(41, some 6)]] d12 z12 (by kernel_rfl) ⟨Ov rfl rfl fun _ _ T ⟨k1, _⟩ => ex_move (k1.trans s20_1),
    Ov rfl rfl fun _ _ T ⟨k35, _⟩ => ex_eql k35 rfl,
    Ov rfl rfl fun _ _ T ⟨k36, _⟩ => ex_move k36,
    Og rfl rfl rfl fun _ _ T ⟨k1, k37, _⟩ => ⟨k37, fun hcQ => ex_move (k1.trans s20_1)⟩,
    Og rfl rfl rfl fun _ _ T ⟨k2, k37, _⟩ => ⟨k37, fun hcQ => ex_move (k2.trans s21_2)⟩,
    Og rfl rfl rfl fun _ _ T ⟨k38, k39, k37, _⟩ => ⟨k37, fun hcQ => ex_eql (k38.trans (if_pos hcQ)) (k39.trans (if_pos hcQ))⟩,
    Ov rfl rfl fun _ _ T ⟨k37, k40, _⟩ => ex_pick_or k37 rfl k40,
    Ov rfl rfl fun _ _ T ⟨k41, _⟩ => ex_assign k41,
    trivial⟩ ?_
   intro a22 w22 d22 z22 t22 e22 q22
   have x23 := (Touch.trans (Touch.trans x7 (Ext.touch t12)) (Ext.touch t22))
   rcases Bool.eq_false_or_eq_true ((decide (f = 1)) || (decide (f = g))) with y24 | y24
   ·have c24 := y24; try simp only [Bool.and_eq_true, Bool.or_eq_true, Bool.and_eq_false_iff, Bool.or_eq_false_iff, Bool.not_eq_true', Bool.not_eq_false', decide_eq_true_eq, decide_eq_false_iff_not] at c24
    have s25_34 : a22.eval (.tmp 34) = .bool ((decide (f = 1)) || (decide (f = g))) := e22.2.2.2.2.2.2.2.1
    refine wp_cond_true (s25_34.trans (by rw [y24])) ?_
    have s26_2 := ((q22 2 rfl).trans s21_2)
    refine rgs mixed 83 [.eq (.int .i64 g), .eq (.int .i64 g), .eq (.bool true)] [[(2, none)], [(42, some 0)], []] d22 z22 (by kernel_rfl) ⟨Ov rfl rfl fun _ _ T ⟨k2, _⟩ => ex_move (k2.trans s26_2), Ov rfl rfl fun _ _ T ⟨k42, _⟩ => ex_assign k42, Ov rfl rfl fun _ _ T _ => ex_assign rfl, trivial⟩ ?_
    intro a27 w27 d27 z27 t27 e27 q27
    refine wp_ret ?_
    have s28_6 : a27.eval (.tmp 6) = .int .i64 g := e27.2.1
    have s29_7 : a27.eval (.tmp 7) = .bool true := e27.2.2.1
    repeat (first | (with_reducible refine then_ret ?_) | (with_reducible refine block_ret ?_))
    refine rett (rs := [.tmp 6, .tmp 7]) (vs := [.int .i64 g, .bool true]) Try.results131 ⟨s28_6, ⟨s29_7, trivial⟩⟩ (by simp) d27 ?_
    have x30 := (Touch.trans x23 (Ext.touch t27))
    exact ⟨by unfold short; rw [if_pos c8, if_neg (by rw [y13]; decide), if_pos y24], x30.ext⟩
   ·have c24 := y24; try simp only [Bool.and_eq_true, Bool.or_eq_true, Bool.and_eq_false_iff, Bool.or_eq_false_iff, Bool.not_eq_true', Bool.not_eq_false', decide_eq_true_eq, decide_eq_false_iff_not] at c24
    have s31_34 : a22.eval (.tmp 34) = .bool ((decide (f = 1)) || (decide (f = g))) := e22.2.2.2.2.2.2.2.1
    refine wp_cond_false (s31_34.trans (by rw [y24])) ?_
    have s32_2 := ((q22 2 rfl).trans s21_2)
    refine rgs mixed 83 [.eq (.int .i64 g), .eq (.bool (decide (g = 1))), .eq (.bool (decide (g = 1)))] [[(2, none)], [(44, some 0)], [(45, some 1)]] d22 z22 (by kernel_rfl) ⟨Ov rfl rfl fun _ _ T ⟨k2, _⟩ => ex_move (k2.trans s32_2), Ov rfl rfl fun _ _ T ⟨k44, _⟩ => ex_eql k44 rfl, Ov rfl rfl fun _ _ T ⟨k45, _⟩ => ex_assign k45, trivial⟩ ?_
    intro a33 w33 d33 z33 t33 e33 q33
    by_cases c34 : g = 1
    ·have y34 := decide_eq_true c34
     have s35_43 : a33.eval (.tmp 43) = .bool (decide (g = 1)) := e33.2.2.1
     refine wp_cond_true (s35_43.trans (by rw [y34])) ?_
     have s36_1 := ((q33 1 rfl).trans ((q22 1 rfl).trans s20_1))
     refine rgs mixed 83 [.eq (.int .i64 f), .eq (.int .i64 f), .eq (.bool true)] [[(1, none)], [(46, some 0)], []] d33 z33 (by kernel_rfl) ⟨Ov rfl rfl fun _ _ T ⟨k1, _⟩ => ex_move (k1.trans s36_1), Ov rfl rfl fun _ _ T ⟨k46, _⟩ => ex_assign k46, Ov rfl rfl fun _ _ T _ => ex_assign rfl, trivial⟩ ?_
     intro a37 w37 d37 z37 t37 e37 q37
     refine wp_ret ?_
     have s38_6 : a37.eval (.tmp 6) = .int .i64 f := e37.2.1
     have s39_7 : a37.eval (.tmp 7) = .bool true := e37.2.2.1
     repeat (first | (with_reducible refine then_ret ?_) | (with_reducible refine block_ret ?_))
     refine rett (rs := [.tmp 6, .tmp 7]) (vs := [.int .i64 f, .bool true]) Try.results131 ⟨s38_6, ⟨s39_7, trivial⟩⟩ (by simp) d37 ?_
     have x40 := (Touch.trans (Touch.trans x23 (Ext.touch t33)) (Ext.touch t37))
     exact ⟨by unfold short; rw [if_pos c8, if_neg (by rw [y13]; decide), if_neg (by rw [y24]; decide), if_pos c34], x40.ext⟩
    ·have y34 := decide_eq_false c34
     have s41_43 : a33.eval (.tmp 43) = .bool (decide (g = 1)) := e33.2.2.1
     refine wp_cond_false (s41_43.trans (by rw [y34])) ?_
     refine wp_skip ?_
     repeat (with_reducible refine block_norm ?_)
     refine hK2 _ _ ?_
     refine rgs mixed 83 [.eq (.int .i64 0), .eq (.bool false)] [[], []] d33 z33 (by kernel_rfl) ⟨Ov rfl rfl fun _ _ T _ => ex_assign rfl, Ov rfl rfl fun _ _ T _ => ex_assign rfl, trivial⟩ ?_
     intro a42 w42 d42 z42 t42 e42 q42
     refine wp_ret ?_
     have s43_6 : a42.eval (.tmp 6) = .int .i64 0 := e42.1
     have s44_7 : a42.eval (.tmp 7) = .bool false := e42.2.1
     repeat (first | (with_reducible refine then_ret ?_) | (with_reducible refine block_ret ?_))
     refine rett (rs := [.tmp 6, .tmp 7]) (vs := [.int .i64 0, .bool false]) Try.results131 ⟨s43_6, ⟨s44_7, trivial⟩⟩ (by simp) d42 ?_
     have x45 := (Touch.trans (Touch.trans x23 (Ext.touch t33)) (Ext.touch t42))
     exact ⟨by unfold short; rw [if_pos c8, if_neg (by rw [y13]; decide), if_neg (by rw [y24]; decide), if_neg c34], x45.ext⟩
 ·have y8 := decide_eq_false c8
  have s46_25 : a6.eval (.tmp 25) = .bool (decide (kind = 0)) := e6.2.1
  refine wp_cond_false (s46_25.trans (by rw [y8])) ?_
  have s47_8 := ((q6 8 rfl).trans s5_8)
  refine rgs mixed 83 [.eq (.bool (decide (kind = 1))), .eq (.bool (decide (kind = 1)))] [[(8, none)], [(48, some 0)]] d6 z6 (by kernel_rfl) ⟨Ov rfl rfl fun _ _ T ⟨k8, _⟩ => ex_eql (k8.trans s47_8) rfl, Ov rfl rfl fun _ _ T ⟨k48, _⟩ => ex_assign k48, trivial⟩ ?_
  intro a48 w48 d48 z48 t48 e48 q48
  by_cases c49 : kind = 1
  ·have y49 := decide_eq_true c49
   have s50_47 : a48.eval (.tmp 47) = .bool (decide (kind = 1)) := e48.2.1
   refine wp_cond_true (s50_47.trans (by rw [y49])) ?_
   refine wp_block ?_
   have p52 := fr4 q1 q4 q6 q48
   have s51_1 := ((p52 1 rfl).trans s0_1)
   have s53_2 := ((p52 2 rfl).trans s0_2)
   refine rgs mixed 83 [.eq (.int .i64 f), .eq (.bool (decide (f = 1))), .eq (.bool (decide (f = 1))), .eq (if (decide (f = 1)) = false then .int .i64 g else undef), .eq (if (decide (f = 1)) = false then .bool (decide (g = 1)) else undef), .eq (.bool ((decide (f = 1)) || (decide (g = 1)))), .eq (.bool ((decide (f = 1)) || (decide (g = 1))))] [[(1, none)], [(50, some 0)], [(51, some 1)], [(2, none), (52, some 2)], [(53, some 3), (52, some 2)], [(52, some 2), (54, some 4)], [(55, some 5)]] d48 z48 (by kernel_rfl) ⟨Ov rfl rfl fun _ _ T ⟨k1, _⟩ => ex_move (k1.trans s51_1),
    Ov rfl rfl fun _ _ T ⟨k50, _⟩ => ex_eql k50 rfl,
    Ov rfl rfl fun _ _ T ⟨k51, _⟩ => ex_move k51,
    Og rfl rfl rfl fun _ _ T ⟨k2, k52, _⟩ => ⟨k52, fun hcQ => ex_move (k2.trans s53_2)⟩,
    Og rfl rfl rfl fun _ _ T ⟨k53, k52, _⟩ => ⟨k52, fun hcQ => ex_eql (k53.trans (if_pos hcQ)) rfl⟩,
    Ov rfl rfl fun _ _ T ⟨k52, k54, _⟩ => ex_pick_or k52 rfl k54,
    Ov rfl rfl fun _ _ T ⟨k55, _⟩ => ex_assign k55,
    trivial⟩ ?_
   intro a54 w54 d54 z54 t54 e54 q54
   have x55 := (Touch.trans (Touch.trans x7 (Ext.touch t48)) (Ext.touch t54))
   rcases Bool.eq_false_or_eq_true ((decide (f = 1)) || (decide (g = 1))) with y56 | y56
   ·have c56 := y56; try simp only [Bool.and_eq_true, Bool.or_eq_true, Bool.and_eq_false_iff, Bool.or_eq_false_iff, Bool.not_eq_true', Bool.not_eq_false', decide_eq_true_eq, decide_eq_false_iff_not] at c56
    have s57_49 : a54.eval (.tmp 49) = .bool ((decide (f = 1)) || (decide (g = 1))) := e54.2.2.2.2.2.2.1
    refine wp_cond_true (s57_49.trans (by rw [y56])) ?_
    refine rgs mixed 83 [.eq (.int .i64 1), .eq (.bool true)] [[], []] d54 z54 (by kernel_rfl) ⟨Ov rfl rfl fun _ _ T _ => ex_assign rfl, Ov rfl rfl fun _ _ T _ => ex_assign rfl, trivial⟩ ?_
    intro a58 w58 d58 z58 t58 e58 q58
    refine wp_ret ?_
    have s59_6 : a58.eval (.tmp 6) = .int .i64 1 := e58.1
    have s60_7 : a58.eval (.tmp 7) = .bool true := e58.2.1
    repeat (first | (with_reducible refine then_ret ?_) | (with_reducible refine block_ret ?_))
    refine rett (rs := [.tmp 6, .tmp 7]) (vs := [.int .i64 1, .bool true]) Try.results131 ⟨s59_6, ⟨s60_7, trivial⟩⟩ (by simp) d58 ?_
    have x61 := (Touch.trans x55 (Ext.touch t58))
    exact ⟨by unfold short; rw [if_neg c8, if_pos c49, if_pos y56], x61.ext⟩
   ·have c56 := y56; try simp only [Bool.and_eq_true, Bool.or_eq_true, Bool.and_eq_false_iff, Bool.or_eq_false_iff, Bool.not_eq_true', Bool.not_eq_false', decide_eq_true_eq, decide_eq_false_iff_not] at c56
    have s62_49 : a54.eval (.tmp 49) = .bool ((decide (f = 1)) || (decide (g = 1))) := e54.2.2.2.2.2.2.1
    refine wp_cond_false (s62_49.trans (by rw [y56])) ?_
    have s63_1 := ((q54 1 rfl).trans s51_1)
    have s64_2 := ((q54 2 rfl).trans s53_2)
    refine rgs mixed 83 [.eq (.int .i64 f), .eq (.bool (decide (f = 0))), .eq (.bool (decide (f = 0))), .eq (if (decide (f = 0)) = false then .int .i64 f else undef), .eq (if (decide (f = 0)) = false then .int .i64 g else undef), .eq (if (decide (f = 0)) = false then .bool (decide (f = g)) else undef), .eq (.bool ((decide (f = 0)) || (decide (f = g)))), .eq (.bool ((decide (f = 0)) || (decide (f = g))))] [[(1, none)], [(57, some 0)], [(58, some 1)], [(1, none), (59, some 2)], [(2, none), (59, some 2)], [(60, some 3), (61, some 4), (59, some 2)], [(59, some 2), (62, some 5)], [(63, some 6)]] d54 z54 (by kernel_rfl) ⟨Ov rfl rfl fun _ _ T ⟨k1, _⟩ => ex_move (k1.trans s63_1),
     Ov rfl rfl fun _ _ T ⟨k57, _⟩ => ex_eql k57 rfl,
     Ov rfl rfl fun _ _ T ⟨k58, _⟩ => ex_move k58,
     Og rfl rfl rfl fun _ _ T ⟨k1, k59, _⟩ => ⟨k59, fun hcQ => ex_move (k1.trans s63_1)⟩,
     Og rfl rfl rfl fun _ _ T ⟨k2, k59, _⟩ => ⟨k59, fun hcQ => ex_move (k2.trans s64_2)⟩,
     Og rfl rfl rfl fun _ _ T ⟨k60, k61, k59, _⟩ => ⟨k59, fun hcQ => ex_eql (k60.trans (if_pos hcQ)) (k61.trans (if_pos hcQ))⟩,
     Ov rfl rfl fun _ _ T ⟨k59, k62, _⟩ => ex_pick_or k59 rfl k62,
     Ov rfl rfl fun _ _ T ⟨k63, _⟩ => ex_assign k63,
     trivial⟩ ?_
    intro a65 w65 d65 z65 t65 e65 q65
    rcases Bool.eq_false_or_eq_true ((decide (f = 0)) || (decide (f = g))) with y66 | y66
    ·have c66 := y66; try simp only [Bool.and_eq_true, Bool.or_eq_true, Bool.and_eq_false_iff, Bool.or_eq_false_iff, Bool.not_eq_true', Bool.not_eq_false', decide_eq_true_eq, decide_eq_false_iff_not] at c66
     have s67_56 : a65.eval (.tmp 56) = .bool ((decide (f = 0)) || (decide (f = g))) := e65.2.2.2.2.2.2.2.1
     refine wp_cond_true (s67_56.trans (by rw [y66])) ?_
     have s68_2 := ((q65 2 rfl).trans s64_2)
     refine rgs mixed 83 [.eq (.int .i64 g), .eq (.int .i64 g), .eq (.bool true)] [[(2, none)], [(64, some 0)], []] d65 z65 (by kernel_rfl) ⟨Ov rfl rfl fun _ _ T ⟨k2, _⟩ => ex_move (k2.trans s68_2), Ov rfl rfl fun _ _ T ⟨k64, _⟩ => ex_assign k64, Ov rfl rfl fun _ _ T _ => ex_assign rfl, trivial⟩ ?_
     intro a69 w69 d69 z69 t69 e69 q69
     refine wp_ret ?_
     have s70_6 : a69.eval (.tmp 6) = .int .i64 g := e69.2.1
     have s71_7 : a69.eval (.tmp 7) = .bool true := e69.2.2.1
     repeat (first | (with_reducible refine then_ret ?_) | (with_reducible refine block_ret ?_))
     refine rett (rs := [.tmp 6, .tmp 7]) (vs := [.int .i64 g, .bool true]) Try.results131 ⟨s70_6, ⟨s71_7, trivial⟩⟩ (by simp) d69 ?_
     have x72 := (Touch.trans (Touch.trans x55 (Ext.touch t65)) (Ext.touch t69))
     exact ⟨by unfold short; rw [if_neg c8, if_pos c49, if_neg (by rw [y56]; decide), if_pos y66], x72.ext⟩
    ·have c66 := y66; try simp only [Bool.and_eq_true, Bool.or_eq_true, Bool.and_eq_false_iff, Bool.or_eq_false_iff, Bool.not_eq_true', Bool.not_eq_false', decide_eq_true_eq, decide_eq_false_iff_not] at c66
     have s73_56 : a65.eval (.tmp 56) = .bool ((decide (f = 0)) || (decide (f = g))) := e65.2.2.2.2.2.2.2.1
     refine wp_cond_false (s73_56.trans (by rw [y66])) ?_
     have s74_2 := ((q65 2 rfl).trans s64_2)
     refine rgs mixed 83 [.eq (.int .i64 g), .eq (.bool (decide (g = 0))), .eq (.bool (decide (g = 0)))] [[(2, none)], [(66, some 0)], [(67, some 1)]] d65 z65 (by kernel_rfl) ⟨Ov rfl rfl fun _ _ T ⟨k2, _⟩ => ex_move (k2.trans s74_2), Ov rfl rfl fun _ _ T ⟨k66, _⟩ => ex_eql k66 rfl, Ov rfl rfl fun _ _ T ⟨k67, _⟩ => ex_assign k67, trivial⟩ ?_
     intro a75 w75 d75 z75 t75 e75 q75
     have x76 := (Touch.trans (Touch.trans x55 (Ext.touch t65)) (Ext.touch t75))
     by_cases c77 : g = 0
     ·have y77 := decide_eq_true c77
      have s78_65 : a75.eval (.tmp 65) = .bool (decide (g = 0)) := e75.2.2.1
      refine wp_cond_true (s78_65.trans (by rw [y77])) ?_
      have s79_1 := ((q75 1 rfl).trans ((q65 1 rfl).trans s63_1))
      refine rgs mixed 83 [.eq (.int .i64 f), .eq (.int .i64 f), .eq (.bool true)] [[(1, none)], [(68, some 0)], []] d75 z75 (by kernel_rfl) ⟨Ov rfl rfl fun _ _ T ⟨k1, _⟩ => ex_move (k1.trans s79_1), Ov rfl rfl fun _ _ T ⟨k68, _⟩ => ex_assign k68, Ov rfl rfl fun _ _ T _ => ex_assign rfl, trivial⟩ ?_
      intro a80 w80 d80 z80 t80 e80 q80
      refine wp_ret ?_
      have s81_6 : a80.eval (.tmp 6) = .int .i64 f := e80.2.1
      have s82_7 : a80.eval (.tmp 7) = .bool true := e80.2.2.1
      repeat (first | (with_reducible refine then_ret ?_) | (with_reducible refine block_ret ?_))
      refine rett (rs := [.tmp 6, .tmp 7]) (vs := [.int .i64 f, .bool true]) Try.results131 ⟨s81_6, ⟨s82_7, trivial⟩⟩ (by simp) d80 ?_
      have x83 := (Touch.trans x76 (Ext.touch t80))
      exact ⟨by unfold short; rw [if_neg c8, if_pos c49, if_neg (by rw [y56]; decide), if_neg (by rw [y66]; decide), if_pos c77], x83.ext⟩
     ·have y77 := decide_eq_false c77
      have s84_65 : a75.eval (.tmp 65) = .bool (decide (g = 0)) := e75.2.2.1
      refine wp_cond_false (s84_65.trans (by rw [y77])) ?_
      refine wp_skip ?_
      repeat (with_reducible refine block_norm ?_)
      refine hK2 _ _ ?_
      refine rgs mixed 83 [.eq (.int .i64 0), .eq (.bool false)] [[], []] d75 z75 (by kernel_rfl) ⟨Ov rfl rfl fun _ _ T _ => ex_assign rfl, Ov rfl rfl fun _ _ T _ => ex_assign rfl, trivial⟩ ?_
      intro a85 w85 d85 z85 t85 e85 q85
      refine wp_ret ?_
      have s86_6 : a85.eval (.tmp 6) = .int .i64 0 := e85.1
      have s87_7 : a85.eval (.tmp 7) = .bool false := e85.2.1
      repeat (first | (with_reducible refine then_ret ?_) | (with_reducible refine block_ret ?_))
      refine rett (rs := [.tmp 6, .tmp 7]) (vs := [.int .i64 0, .bool false]) Try.results131 ⟨s86_6, ⟨s87_7, trivial⟩⟩ (by simp) d85 ?_
      have x88 := (Touch.trans x76 (Ext.touch t85))
      exact ⟨by unfold short; rw [if_neg c8, if_pos c49, if_neg (by rw [y56]; decide), if_neg (by rw [y66]; decide), if_neg c77], x88.ext⟩
  ·have y49 := decide_eq_false c49
   have s89_47 : a48.eval (.tmp 47) = .bool (decide (kind = 1)) := e48.2.1
   refine wp_cond_false (s89_47.trans (by rw [y49])) ?_
   have s90_8 := ((q48 8 rfl).trans s47_8)
   refine rgs mixed 83 [.eq (.bool (decide (kind = 2))), .eq (.bool (decide (kind = 2)))] [[(8, none)], [(70, some 0)]] d48 z48 (by kernel_rfl) ⟨Ov rfl rfl fun _ _ T ⟨k8, _⟩ => ex_eql (k8.trans s90_8) rfl, Ov rfl rfl fun _ _ T ⟨k70, _⟩ => ex_assign k70, trivial⟩ ?_
   intro a91 w91 d91 z91 t91 e91 q91
   have x92 := (Touch.trans (Touch.trans x7 (Ext.touch t48)) (Ext.touch t91))
   by_cases c93 : kind = 2
   ·have y93 := decide_eq_true c93
    have s94_69 : a91.eval (.tmp 69) = .bool (decide (kind = 2)) := e91.2.1
    refine wp_cond_true (s94_69.trans (by rw [y93])) ?_
    refine wp_block ?_
    have p96 := fr4 q1 q4 q6 q48
    have s95_1 := ((q91 1 rfl).trans ((p96 1 rfl).trans s0_1))
    have s97_2 := ((q91 2 rfl).trans ((p96 2 rfl).trans s0_2))
    refine rgs mixed 83 [.eq (.int .i64 f), .eq (.int .i64 g), .eq (.bool (decide (f = g))), .eq (.bool (decide (f = g)))] [[(1, none)], [(2, none)], [(72, some 0), (73, some 1)], [(74, some 2)]] d91 z91 (by kernel_rfl) ⟨Ov rfl rfl fun _ _ T ⟨k1, _⟩ => ex_move (k1.trans s95_1),
     Ov rfl rfl fun _ _ T ⟨k2, _⟩ => ex_move (k2.trans s97_2),
     Ov rfl rfl fun _ _ T ⟨k72, k73, _⟩ => ex_eql k72 k73,
     Ov rfl rfl fun _ _ T ⟨k74, _⟩ => ex_assign k74,
     trivial⟩ ?_
    intro a98 w98 d98 z98 t98 e98 q98
    by_cases c99 : f = g
    ·have y99 := decide_eq_true c99
     have s100_71 : a98.eval (.tmp 71) = .bool (decide (f = g)) := e98.2.2.2.1
     refine wp_cond_true (s100_71.trans (by rw [y99])) ?_
     refine rgs mixed 83 [.eq (.int .i64 0), .eq (.bool true)] [[], []] d98 z98 (by kernel_rfl) ⟨Ov rfl rfl fun _ _ T _ => ex_assign rfl, Ov rfl rfl fun _ _ T _ => ex_assign rfl, trivial⟩ ?_
     intro a101 w101 d101 z101 t101 e101 q101
     refine wp_ret ?_
     have s102_6 : a101.eval (.tmp 6) = .int .i64 0 := e101.1
     have s103_7 : a101.eval (.tmp 7) = .bool true := e101.2.1
     repeat (first | (with_reducible refine then_ret ?_) | (with_reducible refine block_ret ?_))
     refine rett (rs := [.tmp 6, .tmp 7]) (vs := [.int .i64 0, .bool true]) Try.results131 ⟨s102_6, ⟨s103_7, trivial⟩⟩ (by simp) d101 ?_
     have x104 := (Touch.trans (Touch.trans x92 (Ext.touch t98)) (Ext.touch t101))
     exact ⟨by unfold short; rw [if_neg c8, if_neg c49, if_pos c93, if_pos c99], x104.ext⟩
    ·have y99 := decide_eq_false c99
     have s105_71 : a98.eval (.tmp 71) = .bool (decide (f = g)) := e98.2.2.2.1
     refine wp_cond_false (s105_71.trans (by rw [y99])) ?_
     have s106_1 := ((q98 1 rfl).trans s95_1)
     refine rgs mixed 83 [.eq (.int .i64 f), .eq (.bool (decide (f = 0))), .eq (.bool (decide (f = 0)))] [[(1, none)], [(76, some 0)], [(77, some 1)]] d98 z98 (by kernel_rfl) ⟨Ov rfl rfl fun _ _ T ⟨k1, _⟩ => ex_move (k1.trans s106_1), Ov rfl rfl fun _ _ T ⟨k76, _⟩ => ex_eql k76 rfl, Ov rfl rfl fun _ _ T ⟨k77, _⟩ => ex_assign k77, trivial⟩ ?_
     intro a107 w107 d107 z107 t107 e107 q107
     have x108 := (Touch.trans (Touch.trans x92 (Ext.touch t98)) (Ext.touch t107))
     by_cases c109 : f = 0
     ·have y109 := decide_eq_true c109
      have s110_75 : a107.eval (.tmp 75) = .bool (decide (f = 0)) := e107.2.2.1
      refine wp_cond_true (s110_75.trans (by rw [y109])) ?_
      have s111_2 := ((q107 2 rfl).trans ((q98 2 rfl).trans s97_2))
      refine rgs mixed 83 [.eq (.int .i64 g), .eq (.int .i64 g), .eq (.bool true)] [[(2, none)], [(78, some 0)], []] d107 z107 (by kernel_rfl) ⟨Ov rfl rfl fun _ _ T ⟨k2, _⟩ => ex_move (k2.trans s111_2), Ov rfl rfl fun _ _ T ⟨k78, _⟩ => ex_assign k78, Ov rfl rfl fun _ _ T _ => ex_assign rfl, trivial⟩ ?_
      intro a112 w112 d112 z112 t112 e112 q112
      refine wp_ret ?_
      have s113_6 : a112.eval (.tmp 6) = .int .i64 g := e112.2.1
      have s114_7 : a112.eval (.tmp 7) = .bool true := e112.2.2.1
      repeat (first | (with_reducible refine then_ret ?_) | (with_reducible refine block_ret ?_))
      refine rett (rs := [.tmp 6, .tmp 7]) (vs := [.int .i64 g, .bool true]) Try.results131 ⟨s113_6, ⟨s114_7, trivial⟩⟩ (by simp) d112 ?_
      have x115 := (Touch.trans x108 (Ext.touch t112))
      exact ⟨by unfold short; rw [if_neg c8, if_neg c49, if_pos c93, if_neg c99, if_pos c109], x115.ext⟩
     ·have y109 := decide_eq_false c109
      have s116_75 : a107.eval (.tmp 75) = .bool (decide (f = 0)) := e107.2.2.1
      refine wp_cond_false (s116_75.trans (by rw [y109])) ?_
      have s117_2 := ((q107 2 rfl).trans ((q98 2 rfl).trans s97_2))
      refine rgs mixed 83 [.eq (.int .i64 g), .eq (.bool (decide (g = 0))), .eq (.bool (decide (g = 0)))] [[(2, none)], [(80, some 0)], [(81, some 1)]] d107 z107 (by kernel_rfl) ⟨Ov rfl rfl fun _ _ T ⟨k2, _⟩ => ex_move (k2.trans s117_2), Ov rfl rfl fun _ _ T ⟨k80, _⟩ => ex_eql k80 rfl, Ov rfl rfl fun _ _ T ⟨k81, _⟩ => ex_assign k81, trivial⟩ ?_
      intro a118 w118 d118 z118 t118 e118 q118
      by_cases c119 : g = 0
      ·have y119 := decide_eq_true c119
       have s120_79 : a118.eval (.tmp 79) = .bool (decide (g = 0)) := e118.2.2.1
       refine wp_cond_true (s120_79.trans (by rw [y119])) ?_
       have s121_1 := ((q118 1 rfl).trans ((q107 1 rfl).trans s106_1))
       refine rgs mixed 83 [.eq (.int .i64 f), .eq (.int .i64 f), .eq (.bool true)] [[(1, none)], [(82, some 0)], []] d118 z118 (by kernel_rfl) ⟨Ov rfl rfl fun _ _ T ⟨k1, _⟩ => ex_move (k1.trans s121_1), Ov rfl rfl fun _ _ T ⟨k82, _⟩ => ex_assign k82, Ov rfl rfl fun _ _ T _ => ex_assign rfl, trivial⟩ ?_
       intro a122 w122 d122 z122 t122 e122 q122
       refine wp_ret ?_
       have s123_6 : a122.eval (.tmp 6) = .int .i64 f := e122.2.1
       have s124_7 : a122.eval (.tmp 7) = .bool true := e122.2.2.1
       repeat (first | (with_reducible refine then_ret ?_) | (with_reducible refine block_ret ?_))
       refine rett (rs := [.tmp 6, .tmp 7]) (vs := [.int .i64 f, .bool true]) Try.results131 ⟨s123_6, ⟨s124_7, trivial⟩⟩ (by simp) d122 ?_
       have x125 := (Touch.trans (Touch.trans x108 (Ext.touch t118)) (Ext.touch t122))
       exact ⟨by unfold short; rw [if_neg c8, if_neg c49, if_pos c93, if_neg c99, if_neg c109, if_pos c119], x125.ext⟩
      ·have y119 := decide_eq_false c119
       have s126_79 : a118.eval (.tmp 79) = .bool (decide (g = 0)) := e118.2.2.1
       refine wp_cond_false (s126_79.trans (by rw [y119])) ?_
       refine wp_skip ?_
       repeat (with_reducible refine block_norm ?_)
       refine hK2 _ _ ?_
       refine rgs mixed 83 [.eq (.int .i64 0), .eq (.bool false)] [[], []] d118 z118 (by kernel_rfl) ⟨Ov rfl rfl fun _ _ T _ => ex_assign rfl, Ov rfl rfl fun _ _ T _ => ex_assign rfl, trivial⟩ ?_
       intro a127 w127 d127 z127 t127 e127 q127
       refine wp_ret ?_
       have s128_6 : a127.eval (.tmp 6) = .int .i64 0 := e127.1
       have s129_7 : a127.eval (.tmp 7) = .bool false := e127.2.1
       repeat (first | (with_reducible refine then_ret ?_) | (with_reducible refine block_ret ?_))
       refine rett (rs := [.tmp 6, .tmp 7]) (vs := [.int .i64 0, .bool false]) Try.results131 ⟨s128_6, ⟨s129_7, trivial⟩⟩ (by simp) d127 ?_
       have x130 := (Touch.trans (Touch.trans x108 (Ext.touch t118)) (Ext.touch t127))
       exact ⟨by unfold short; rw [if_neg c8, if_neg c49, if_pos c93, if_neg c99, if_neg c109, if_neg c119], x130.ext⟩
   ·have y93 := decide_eq_false c93
    have s131_69 : a91.eval (.tmp 69) = .bool (decide (kind = 2)) := e91.2.1
    refine wp_cond_false (s131_69.trans (by rw [y93])) ?_
    refine wp_block ?_
    have p133 := fr4 q1 q4 q6 q48
    have s132_1 := ((q91 1 rfl).trans ((p133 1 rfl).trans s0_1))
    have s134_2 := ((q91 2 rfl).trans ((p133 2 rfl).trans s0_2))
    refine rgs mixed 83 [.eq (.int .i64 f), .eq (.bool (decide (f = 0))), .eq (.bool (decide (f = 0))), .eq (if (decide (f = 0)) = false then .int .i64 g else undef), .eq (if (decide (f = 0)) = false then .bool (decide (g = 1)) else undef), .eq (.bool ((decide (f = 0)) || (decide (g = 1)))), .eq (.bool ((decide (f = 0)) || (decide (g = 1)))), .eq (if ((decide (f = 0)) || (decide (g = 1))) = false then .int .i64 f else undef), .eq (if ((decide (f = 0)) || (decide (g = 1))) = false then .int .i64 g else undef), .eq (if ((decide (f = 0)) || (decide (g = 1))) = false then .bool (decide (f = g)) else undef), .eq (.bool (((decide (f = 0)) || (decide (g = 1))) || (decide (f = g)))), .eq (.bool (((decide (f = 0)) || (decide (g = 1))) || (decide (f = g))))] [[(1, none)], [(10, some 0)], [(11, some 1)], [(2, none), (12, some 2)], [(13, some 3), (12, some 2)], [(12, some 2), (14, some 4)], [(15, some 5)], [(1, none), (16, some 6)], [(2, none), (16, some 6)], [(17, some 7), (18, some 8), (16, some 6)], [(16, some 6), (19, some 9)], [(20, some 10)]] d91 z91 (by kernel_rfl) ⟨Ov rfl rfl fun _ _ T ⟨k1, _⟩ => ex_move (k1.trans s132_1),
     Ov rfl rfl fun _ _ T ⟨k10, _⟩ => ex_eql k10 rfl,
     Ov rfl rfl fun _ _ T ⟨k11, _⟩ => ex_move k11,
     Og rfl rfl rfl fun _ _ T ⟨k2, k12, _⟩ => ⟨k12, fun hcQ => ex_move (k2.trans s134_2)⟩,
     Og rfl rfl rfl fun _ _ T ⟨k13, k12, _⟩ => ⟨k12, fun hcQ => ex_eql (k13.trans (if_pos hcQ)) rfl⟩,
     Ov rfl rfl fun _ _ T ⟨k12, k14, _⟩ => ex_pick_or k12 rfl k14,
     Ov rfl rfl fun _ _ T ⟨k15, _⟩ => ex_move k15,
     Og rfl rfl rfl fun _ _ T ⟨k1, k16, _⟩ => ⟨k16, fun hcQ => ex_move (k1.trans s132_1)⟩,
     Og rfl rfl rfl fun _ _ T ⟨k2, k16, _⟩ => ⟨k16, fun hcQ => ex_move (k2.trans s134_2)⟩,
     Og rfl rfl rfl fun _ _ T ⟨k17, k18, k16, _⟩ => ⟨k16, fun hcQ => ex_eql (k17.trans (if_pos hcQ)) (k18.trans (if_pos hcQ))⟩,
     Ov rfl rfl fun _ _ T ⟨k16, k19, _⟩ => ex_pick_or k16 rfl k19,
     Ov rfl rfl fun _ _ T ⟨k20, _⟩ => ex_assign k20,
     trivial⟩ ?_
    intro a135 w135 d135 z135 t135 e135 q135
    rcases Bool.eq_false_or_eq_true (((decide (f = 0)) || (decide (g = 1))) || (decide (f = g))) with y136 | y136
    ·have c136 := y136; try simp only [Bool.and_eq_true, Bool.or_eq_true, Bool.and_eq_false_iff, Bool.or_eq_false_iff, Bool.not_eq_true', Bool.not_eq_false', decide_eq_true_eq, decide_eq_false_iff_not] at c136
     have s137_9 : a135.eval (.tmp 9) = .bool (((decide (f = 0)) || (decide (g = 1))) || (decide (f = g))) := e135.2.2.2.2.2.2.2.2.2.2.2.1
     refine wp_cond_true (s137_9.trans (by rw [y136])) ?_
     refine rgs mixed 83 [.eq (.int .i64 0), .eq (.bool true)] [[], []] d135 z135 (by kernel_rfl) ⟨Ov rfl rfl fun _ _ T _ => ex_assign rfl, Ov rfl rfl fun _ _ T _ => ex_assign rfl, trivial⟩ ?_
     intro a138 w138 d138 z138 t138 e138 q138
     refine wp_ret ?_
     have s139_6 : a138.eval (.tmp 6) = .int .i64 0 := e138.1
     have s140_7 : a138.eval (.tmp 7) = .bool true := e138.2.1
     repeat (first | (with_reducible refine then_ret ?_) | (with_reducible refine block_ret ?_))
     refine rett (rs := [.tmp 6, .tmp 7]) (vs := [.int .i64 0, .bool true]) Try.results131 ⟨s139_6, ⟨s140_7, trivial⟩⟩ (by simp) d138 ?_
     have x141 := (Touch.trans (Touch.trans x92 (Ext.touch t135)) (Ext.touch t138))
     exact ⟨by unfold short; rw [if_neg c8, if_neg c49, if_neg c93, if_pos y136], x141.ext⟩
    ·have c136 := y136; try simp only [Bool.and_eq_true, Bool.or_eq_true, Bool.and_eq_false_iff, Bool.or_eq_false_iff, Bool.not_eq_true', Bool.not_eq_false', decide_eq_true_eq, decide_eq_false_iff_not] at c136
     have s142_9 : a135.eval (.tmp 9) = .bool (((decide (f = 0)) || (decide (g = 1))) || (decide (f = g))) := e135.2.2.2.2.2.2.2.2.2.2.2.1
     refine wp_cond_false (s142_9.trans (by rw [y136])) ?_
     have s143_2 := ((q135 2 rfl).trans s134_2)
     refine rgs mixed 83 [.eq (.int .i64 g), .eq (.bool (decide (g = 0))), .eq (.bool (decide (g = 0)))] [[(2, none)], [(22, some 0)], [(23, some 1)]] d135 z135 (by kernel_rfl) ⟨Ov rfl rfl fun _ _ T ⟨k2, _⟩ => ex_move (k2.trans s143_2), Ov rfl rfl fun _ _ T ⟨k22, _⟩ => ex_eql k22 rfl, Ov rfl rfl fun _ _ T ⟨k23, _⟩ => ex_assign k23, trivial⟩ ?_
     intro a144 w144 d144 z144 t144 e144 q144
     have x145 := (Touch.trans (Touch.trans x92 (Ext.touch t135)) (Ext.touch t144))
     by_cases c146 : g = 0
     ·have y146 := decide_eq_true c146
      have s147_21 : a144.eval (.tmp 21) = .bool (decide (g = 0)) := e144.2.2.1
      refine wp_cond_true (s147_21.trans (by rw [y146])) ?_
      have s148_1 := ((q144 1 rfl).trans ((q135 1 rfl).trans s132_1))
      refine rgs mixed 83 [.eq (.int .i64 f), .eq (.int .i64 f), .eq (.bool true)] [[(1, none)], [(24, some 0)], []] d144 z144 (by kernel_rfl) ⟨Ov rfl rfl fun _ _ T ⟨k1, _⟩ => ex_move (k1.trans s148_1), Ov rfl rfl fun _ _ T ⟨k24, _⟩ => ex_assign k24, Ov rfl rfl fun _ _ T _ => ex_assign rfl, trivial⟩ ?_
      intro a149 w149 d149 z149 t149 e149 q149
      refine wp_ret ?_
      have s150_6 : a149.eval (.tmp 6) = .int .i64 f := e149.2.1
      have s151_7 : a149.eval (.tmp 7) = .bool true := e149.2.2.1
      repeat (first | (with_reducible refine then_ret ?_) | (with_reducible refine block_ret ?_))
      refine rett (rs := [.tmp 6, .tmp 7]) (vs := [.int .i64 f, .bool true]) Try.results131 ⟨s150_6, ⟨s151_7, trivial⟩⟩ (by simp) d149 ?_
      have x152 := (Touch.trans x145 (Ext.touch t149))
      exact ⟨by unfold short; rw [if_neg c8, if_neg c49, if_neg c93, if_neg (by rw [y136]; decide), if_pos c146], x152.ext⟩
     ·have y146 := decide_eq_false c146
      have s153_21 : a144.eval (.tmp 21) = .bool (decide (g = 0)) := e144.2.2.1
      refine wp_cond_false (s153_21.trans (by rw [y146])) ?_
      refine wp_skip ?_
      repeat (with_reducible refine block_norm ?_)
      refine hK2 _ _ ?_
      refine rgs mixed 83 [.eq (.int .i64 0), .eq (.bool false)] [[], []] d144 z144 (by kernel_rfl) ⟨Ov rfl rfl fun _ _ T _ => ex_assign rfl, Ov rfl rfl fun _ _ T _ => ex_assign rfl, trivial⟩ ?_
      intro a154 w154 d154 z154 t154 e154 q154
      refine wp_ret ?_
      have s155_6 : a154.eval (.tmp 6) = .int .i64 0 := e154.1
      have s156_7 : a154.eval (.tmp 7) = .bool false := e154.2.1
      repeat (first | (with_reducible refine then_ret ?_) | (with_reducible refine block_ret ?_))
      refine rett (rs := [.tmp 6, .tmp 7]) (vs := [.int .i64 0, .bool false]) Try.results131 ⟨s155_6, ⟨s156_7, trivial⟩⟩ (by simp) d154 ?_
      have x157 := (Touch.trans x145 (Ext.touch t154))
      exact ⟨by unfold short; rw [if_neg c8, if_neg c49, if_neg c93, if_neg (by rw [y136]; decide), if_neg c146], x157.ext⟩

def hbit (hd : Int) (hs : Int) (hp : Int) (hsp : Int) (hdp : Int) (i : Int) : Bool := if ((decide (i < 0)) || (decide (104 ≤ i))) = true then false else if i < 32 then decide ((ibits .and .u32 (hd.fdiv (2 ^ min (31 - i).toNat IntKind.u32.bits)) 1) = 1) else if i < 64 then decide ((ibits .and .u32 (hs.fdiv (2 ^ min (31 - (i - 32)).toNat IntKind.u32.bits)) 1) = 1) else if i < 72 then decide ((ibits .and .u8 (hp.fdiv (2 ^ min (7 - (i - 64)).toNat IntKind.u8.bits)) 1) = 1) else if i < 88 then decide ((ibits .and .u16 (hsp.fdiv (2 ^ min (15 - (i - 72)).toNat IntKind.u16.bits)) 1) = 1) else decide ((ibits .and .u16 (hdp.fdiv (2 ^ min (15 - (i - 88)).toNat IntKind.u16.bits)) 1) = 1)
set_option maxRecDepth 100000 in
set_option maxHeartbeats 4000000 in
theorem c_hbit (hd : Int) (hs : Int) (hp : Int) (hsp : Int) (hdp : Int) (i : Int) (w : World) : Calls Try.prog 61 #[.agg #[.int .u32 hd, .int .u32 hs, .int .u8 hp, .int .u16 hsp, .int .u16 hdp], .int .i64 i] w fun e w' => e = .returned (.bool (hbit hd hs hp hsp hdp i)) ∧ Ext w w' := by
 refine enter 63 Try.ntmps61 Try.func61 rfl (Nat.le_of_ble_eq_true rfl) fun a0 d0 z0 hargs => ?_
 have s0_0 : a0.eval (.tmp 0) = .agg #[.int .u32 hd, .int .u32 hs, .int .u8 hp, .int .u16 hsp, .int .u16 hdp] := hargs 0 _ rfl
 have s0_1 : a0.eval (.tmp 1) = .int .i64 i := hargs 1 _ rfl
 have x0 := Touch.refl NoF w
 refine wp_seq ?_
 refine seq_begin ?_
 refine sbox z0 rfl s0_0 ?_; intro b1 w1 a1 t1 g1 hb1 u1 z1
 have yb1_2 := Nat.le_trans (Touch.size x0) g1
 refine sp z1 rfl rfl (ex_assign rfl) ?_; intro a3 u3 z3
 have d4 := (u3.defs.trans (u1.defs.trans d0))
 refine seq_end ?_
 refine then_norm ?_
 refine wp_seq_k fun K5 hK5 => ?_
 refine wp_block ?_
 have s6_1 := ((u3.past 1 rfl).trans ((u1.past 1 rfl).trans s0_1))
 refine rgs mixed 63 [.eq (.int .i64 i), .eq (.bool (decide (i < 0))), .eq (.bool (decide (i < 0))), .eq (if (decide (i < 0)) = false then .int .i64 i else undef), .eq (if (decide (i < 0)) = false then .bool (decide (104 ≤ i)) else undef), .eq (.bool ((decide (i < 0)) || (decide (104 ≤ i)))), .eq (.bool ((decide (i < 0)) || (decide (104 ≤ i))))] [[(1, none)], [(6, some 0)], [(7, some 1)], [(1, none), (8, some 2)], [(9, some 3), (8, some 2)], [(8, some 2), (10, some 4)], [(11, some 5)]] d4 z3 (by kernel_rfl) ⟨Ov rfl rfl fun _ _ T ⟨k1, _⟩ => ex_move (k1.trans s6_1),
  Ov rfl rfl fun _ _ T ⟨k6, _⟩ => ex_lss k6 rfl,
  Ov rfl rfl fun _ _ T ⟨k7, _⟩ => ex_move k7,
  Og rfl rfl rfl fun _ _ T ⟨k1, k8, _⟩ => ⟨k8, fun hcQ => ex_move (k1.trans s6_1)⟩,
  Og rfl rfl rfl fun _ _ T ⟨k9, k8, _⟩ => ⟨k8, fun hcQ => ex_geq (k9.trans (if_pos hcQ)) rfl⟩,
  Ov rfl rfl fun _ _ T ⟨k8, k10, _⟩ => ex_pick_or k8 rfl k10,
  Ov rfl rfl fun _ _ T ⟨k11, _⟩ => ex_assign k11,
  trivial⟩ ?_
 intro a7 w7 d7 z7 t7 e7 q7
 have x8 := (Touch.trans (Touch.trans x0 (Ext.touch t1)) (Ext.touch t7))
 rcases Bool.eq_false_or_eq_true ((decide (i < 0)) || (decide (104 ≤ i))) with y9 | y9
 ·have c9 := y9; try simp only [Bool.and_eq_true, Bool.or_eq_true, Bool.and_eq_false_iff, Bool.or_eq_false_iff, Bool.not_eq_true', Bool.not_eq_false', decide_eq_true_eq, decide_eq_false_iff_not] at c9
  have s10_5 : a7.eval (.tmp 5) = .bool ((decide (i < 0)) || (decide (104 ≤ i))) := e7.2.2.2.2.2.2.1
  refine wp_cond_true (s10_5.trans (by rw [y9])) ?_
  refine rgs mixed 63 [.eq (.bool false)] [[]] d7 z7 (by kernel_rfl) ⟨Ov rfl rfl fun _ _ T _ => ex_assign rfl, trivial⟩ ?_
  intro a11 w11 d11 z11 t11 e11 q11
  refine wp_ret ?_
  have s12_4 : a11.eval (.tmp 4) = .bool false := e11.1
  repeat (first | (with_reducible refine then_ret ?_) | (with_reducible refine block_ret ?_))
  refine retl (rs := [.tmp 4]) Try.results61 ⟨s12_4, trivial⟩ d11 ?_
  have x13 := (Touch.trans x8 (Ext.touch t11))
  exact ⟨by unfold hbit; rw [if_pos y9], x13.ext⟩
 ·have c9 := y9; try simp only [Bool.and_eq_true, Bool.or_eq_true, Bool.and_eq_false_iff, Bool.or_eq_false_iff, Bool.not_eq_true', Bool.not_eq_false', decide_eq_true_eq, decide_eq_false_iff_not] at c9
  have s14_5 : a7.eval (.tmp 5) = .bool ((decide (i < 0)) || (decide (104 ≤ i))) := e7.2.2.2.2.2.2.1
  refine wp_cond_false (s14_5.trans (by rw [y9])) ?_
  have s15_1 := ((q7 1 rfl).trans s6_1)
  refine rgs mixed 63 [.eq (.int .i64 i), .eq (.bool (decide (i < 32))), .eq (.bool (decide (i < 32)))] [[(1, none)], [(13, some 0)], [(14, some 1)]] d7 z7 (by kernel_rfl) ⟨Ov rfl rfl fun _ _ T ⟨k1, _⟩ => ex_move (k1.trans s15_1), Ov rfl rfl fun _ _ T ⟨k13, _⟩ => ex_lss k13 rfl, Ov rfl rfl fun _ _ T ⟨k14, _⟩ => ex_assign k14, trivial⟩ ?_
  intro a16 w16 d16 z16 t16 e16 q16
  by_cases c17 : i < 32
  ·have y17 := decide_eq_true c17
   have s18_12 : a16.eval (.tmp 12) = .bool (decide (i < 32)) := e16.2.2.1
   refine wp_cond_true (s18_12.trans (by rw [y17])) ?_
   have s19_2 : a1.eval (.tmp 2) = .pointer (some ⟨b1, 0, none⟩) := (u1.here _ rfl)
   have s20_2 := ((q16 2 rfl).trans ((q7 2 rfl).trans ((u3.past 2 rfl).trans s19_2)))
   have hb1_21 := (Ext.keep t16 (Ext.keep t7 hb1))
   have s22_1 := ((q16 1 rfl).trans s15_1)
   refine rgs mixed 63 [.eq (.pointer (some ⟨b1, 0, none⟩)), .eq (.int .u32 hd), .eq (.int .i64 i), .eq (.int .i64 (31 - i)), .eq (.int .u32 (hd.fdiv (2 ^ min (31 - i).toNat IntKind.u32.bits))), .eq (.int .u32 (ibits .and .u32 (hd.fdiv (2 ^ min (31 - i).toNat IntKind.u32.bits)) 1)), .eq (.bool (decide ((ibits .and .u32 (hd.fdiv (2 ^ min (31 - i).toNat IntKind.u32.bits)) 1) = 1))), .eq (.bool (decide ((ibits .and .u32 (hd.fdiv (2 ^ min (31 - i).toNat IntKind.u32.bits)) 1) = 1)))] [[(2, none)], [(15, some 0)], [(1, none)], [(17, some 2)], [(16, some 1), (18, some 3)], [(19, some 4)], [(20, some 5)], [(21, some 6)]] d16 z16 (by kernel_rfl) ⟨Ov rfl rfl fun _ _ T ⟨k2, _⟩ => ex_fieldAddr (k2.trans s20_2) (fa_31_0 _ _ _),
    Ov rfl rfl fun _ _ T ⟨k15, _⟩ => ex_load k15 (Try.isAgg22 _) (cell_of (Ext.keep T.ext hb1_21) rfl),
    Ov rfl rfl fun _ _ T ⟨k1, _⟩ => ex_move (k1.trans s22_1),
    Ov rfl rfl fun _ _ T ⟨k17, _⟩ => ex_sub64 rfl k17 (by omega),
    Ov rfl rfl fun _ _ T ⟨k16, k18, _⟩ => ex_shr k16 k18 (by omega),
    Ov rfl rfl fun _ _ T ⟨k19, _⟩ => ex_and k19 rfl,
    Ov rfl rfl fun _ _ T ⟨k20, _⟩ => ex_eql k20 rfl,
    Ov rfl rfl fun _ _ T ⟨k21, _⟩ => ex_assign k21,
    trivial⟩ ?_
   intro a23 w23 d23 z23 t23 e23 q23
   refine wp_ret ?_
   have s24_4 : a23.eval (.tmp 4) = .bool (decide ((ibits .and .u32 (hd.fdiv (2 ^ min (31 - i).toNat IntKind.u32.bits)) 1) = 1)) := e23.2.2.2.2.2.2.2.1
   repeat (first | (with_reducible refine then_ret ?_) | (with_reducible refine block_ret ?_))
   refine retl (rs := [.tmp 4]) Try.results61 ⟨s24_4, trivial⟩ d23 ?_
   have x25 := (Touch.trans (Touch.trans x8 (Ext.touch t16)) (Ext.touch t23))
   exact ⟨by unfold hbit; rw [if_neg (by rw [y9]; decide), if_pos c17], x25.ext⟩
  ·have y17 := decide_eq_false c17
   have s26_12 : a16.eval (.tmp 12) = .bool (decide (i < 32)) := e16.2.2.1
   refine wp_cond_false (s26_12.trans (by rw [y17])) ?_
   have s27_1 := ((q16 1 rfl).trans s15_1)
   refine rgs mixed 63 [.eq (.int .i64 i), .eq (.bool (decide (i < 64))), .eq (.bool (decide (i < 64)))] [[(1, none)], [(23, some 0)], [(24, some 1)]] d16 z16 (by kernel_rfl) ⟨Ov rfl rfl fun _ _ T ⟨k1, _⟩ => ex_move (k1.trans s27_1), Ov rfl rfl fun _ _ T ⟨k23, _⟩ => ex_lss k23 rfl, Ov rfl rfl fun _ _ T ⟨k24, _⟩ => ex_assign k24, trivial⟩ ?_
   intro a28 w28 d28 z28 t28 e28 q28
   have hb1_29 := (Ext.keep t28 (Ext.keep t16 (Ext.keep t7 hb1)))
   have x30 := (Touch.trans (Touch.trans x8 (Ext.touch t16)) (Ext.touch t28))
   by_cases c31 : i < 64
   ·have y31 := decide_eq_true c31
    have s32_22 : a28.eval (.tmp 22) = .bool (decide (i < 64)) := e28.2.2.1
    refine wp_cond_true (s32_22.trans (by rw [y31])) ?_
    have s33_2 : a1.eval (.tmp 2) = .pointer (some ⟨b1, 0, none⟩) := (u1.here _ rfl)
    have s34_2 := ((q28 2 rfl).trans ((q16 2 rfl).trans ((q7 2 rfl).trans ((u3.past 2 rfl).trans s33_2))))
    have s35_1 := ((q28 1 rfl).trans s27_1)
    refine rgs mixed 63 [.eq (.pointer (some ⟨b1, 1, none⟩)), .eq (.int .u32 hs), .eq (.int .i64 i), .eq (.int .i64 (i - 32)), .eq (.int .i64 (31 - (i - 32))), .eq (.int .u32 (hs.fdiv (2 ^ min (31 - (i - 32)).toNat IntKind.u32.bits))), .eq (.int .u32 (ibits .and .u32 (hs.fdiv (2 ^ min (31 - (i - 32)).toNat IntKind.u32.bits)) 1)), .eq (.bool (decide ((ibits .and .u32 (hs.fdiv (2 ^ min (31 - (i - 32)).toNat IntKind.u32.bits)) 1) = 1))), .eq (.bool (decide ((ibits .and .u32 (hs.fdiv (2 ^ min (31 - (i - 32)).toNat IntKind.u32.bits)) 1) = 1)))] [[(2, none)], [(25, some 0)], [(1, none)], [(27, some 2)], [(28, some 3)], [(26, some 1), (29, some 4)], [(30, some 5)], [(31, some 6)], [(32, some 7)]] d28 z28 (by kernel_rfl) ⟨Ov rfl rfl fun _ _ T ⟨k2, _⟩ => ex_fieldAddr (k2.trans s34_2) (fa_31_1 _ _ _),
     Ov rfl rfl fun _ _ T ⟨k25, _⟩ => ex_load k25 (Try.isAgg22 _) (cell_of (Ext.keep T.ext hb1_29) rfl),
     Ov rfl rfl fun _ _ T ⟨k1, _⟩ => ex_move (k1.trans s35_1),
     Ov rfl rfl fun _ _ T ⟨k27, _⟩ => ex_sub64 k27 rfl (by omega),
     Ov rfl rfl fun _ _ T ⟨k28, _⟩ => ex_sub64 rfl k28 (by omega),
     Ov rfl rfl fun _ _ T ⟨k26, k29, _⟩ => ex_shr k26 k29 (by omega),
     Ov rfl rfl fun _ _ T ⟨k30, _⟩ => ex_and k30 rfl,
     Ov rfl rfl fun _ _ T ⟨k31, _⟩ => ex_eql k31 rfl,
     Ov rfl rfl fun _ _ T ⟨k32, _⟩ => ex_assign k32,
     trivial⟩ ?_
    intro a36 w36 d36 z36 t36 e36 q36
    refine wp_ret ?_
    have s37_4 : a36.eval (.tmp 4) = .bool (decide ((ibits .and .u32 (hs.fdiv (2 ^ min (31 - (i - 32)).toNat IntKind.u32.bits)) 1) = 1)) := e36.2.2.2.2.2.2.2.2.1
    repeat (first | (with_reducible refine then_ret ?_) | (with_reducible refine block_ret ?_))
    refine retl (rs := [.tmp 4]) Try.results61 ⟨s37_4, trivial⟩ d36 ?_
    have x38 := (Touch.trans x30 (Ext.touch t36))
    exact ⟨by unfold hbit; rw [if_neg (by rw [y9]; decide), if_neg c17, if_pos c31], x38.ext⟩
   ·have y31 := decide_eq_false c31
    have s39_22 : a28.eval (.tmp 22) = .bool (decide (i < 64)) := e28.2.2.1
    refine wp_cond_false (s39_22.trans (by rw [y31])) ?_
    have s40_1 := ((q28 1 rfl).trans s27_1)
    refine rgs mixed 63 [.eq (.int .i64 i), .eq (.bool (decide (i < 72))), .eq (.bool (decide (i < 72)))] [[(1, none)], [(34, some 0)], [(35, some 1)]] d28 z28 (by kernel_rfl) ⟨Ov rfl rfl fun _ _ T ⟨k1, _⟩ => ex_move (k1.trans s40_1), Ov rfl rfl fun _ _ T ⟨k34, _⟩ => ex_lss k34 rfl, Ov rfl rfl fun _ _ T ⟨k35, _⟩ => ex_assign k35, trivial⟩ ?_
    intro a41 w41 d41 z41 t41 e41 q41
    by_cases c42 : i < 72
    ·have y42 := decide_eq_true c42
     have s43_33 : a41.eval (.tmp 33) = .bool (decide (i < 72)) := e41.2.2.1
     refine wp_cond_true (s43_33.trans (by rw [y42])) ?_
     have s44_2 : a1.eval (.tmp 2) = .pointer (some ⟨b1, 0, none⟩) := (u1.here _ rfl)
     have s45_2 := ((q41 2 rfl).trans ((q28 2 rfl).trans ((q16 2 rfl).trans ((q7 2 rfl).trans ((u3.past 2 rfl).trans s44_2)))))
     have hb1_46 := (Ext.keep t41 hb1_29)
     have s47_1 := ((q41 1 rfl).trans s40_1)
     refine rgs mixed 63 [.eq (.pointer (some ⟨b1, 2, none⟩)), .eq (.int .u8 hp), .eq (.int .i64 i), .eq (.int .i64 (i - 64)), .eq (.int .i64 (7 - (i - 64))), .eq (.int .u8 (hp.fdiv (2 ^ min (7 - (i - 64)).toNat IntKind.u8.bits))), .eq (.int .u8 (ibits .and .u8 (hp.fdiv (2 ^ min (7 - (i - 64)).toNat IntKind.u8.bits)) 1)), .eq (.bool (decide ((ibits .and .u8 (hp.fdiv (2 ^ min (7 - (i - 64)).toNat IntKind.u8.bits)) 1) = 1))), .eq (.bool (decide ((ibits .and .u8 (hp.fdiv (2 ^ min (7 - (i - 64)).toNat IntKind.u8.bits)) 1) = 1)))] [[(2, none)], [(36, some 0)], [(1, none)], [(38, some 2)], [(39, some 3)], [(37, some 1), (40, some 4)], [(41, some 5)], [(42, some 6)], [(43, some 7)]] d41 z41 (by kernel_rfl) ⟨Ov rfl rfl fun _ _ T ⟨k2, _⟩ => ex_fieldAddr (k2.trans s45_2) (fa_31_2 _ _ _),
      Ov rfl rfl fun _ _ T ⟨k36, _⟩ => ex_load k36 (Try.isAgg5 _) (cell_of (Ext.keep T.ext hb1_46) rfl),
      Ov rfl rfl fun _ _ T ⟨k1, _⟩ => ex_move (k1.trans s47_1),
      Ov rfl rfl fun _ _ T ⟨k38, _⟩ => ex_sub64 k38 rfl (by omega),
      Ov rfl rfl fun _ _ T ⟨k39, _⟩ => ex_sub64 rfl k39 (by omega),
      Ov rfl rfl fun _ _ T ⟨k37, k40, _⟩ => ex_shr k37 k40 (by omega),
      Ov rfl rfl fun _ _ T ⟨k41, _⟩ => ex_and k41 rfl,
      Ov rfl rfl fun _ _ T ⟨k42, _⟩ => ex_eql k42 rfl,
      Ov rfl rfl fun _ _ T ⟨k43, _⟩ => ex_assign k43,
      trivial⟩ ?_
     intro a48 w48 d48 z48 t48 e48 q48
     refine wp_ret ?_
     have s49_4 : a48.eval (.tmp 4) = .bool (decide ((ibits .and .u8 (hp.fdiv (2 ^ min (7 - (i - 64)).toNat IntKind.u8.bits)) 1) = 1)) := e48.2.2.2.2.2.2.2.2.1
     repeat (first | (with_reducible refine then_ret ?_) | (with_reducible refine block_ret ?_))
     refine retl (rs := [.tmp 4]) Try.results61 ⟨s49_4, trivial⟩ d48 ?_
     have x50 := (Touch.trans (Touch.trans x30 (Ext.touch t41)) (Ext.touch t48))
     exact ⟨by unfold hbit; rw [if_neg (by rw [y9]; decide), if_neg c17, if_neg c31, if_pos c42], x50.ext⟩
    ·have y42 := decide_eq_false c42
     have s51_33 : a41.eval (.tmp 33) = .bool (decide (i < 72)) := e41.2.2.1
     refine wp_cond_false (s51_33.trans (by rw [y42])) ?_
     have s52_1 := ((q41 1 rfl).trans s40_1)
     refine rgs mixed 63 [.eq (.int .i64 i), .eq (.bool (decide (i < 88))), .eq (.bool (decide (i < 88)))] [[(1, none)], [(45, some 0)], [(46, some 1)]] d41 z41 (by kernel_rfl) ⟨Ov rfl rfl fun _ _ T ⟨k1, _⟩ => ex_move (k1.trans s52_1), Ov rfl rfl fun _ _ T ⟨k45, _⟩ => ex_lss k45 rfl, Ov rfl rfl fun _ _ T ⟨k46, _⟩ => ex_assign k46, trivial⟩ ?_
     intro a53 w53 d53 z53 t53 e53 q53
     have x54 := (Touch.trans (Touch.trans x30 (Ext.touch t41)) (Ext.touch t53))
     by_cases c55 : i < 88
     ·have y55 := decide_eq_true c55
      have s56_44 : a53.eval (.tmp 44) = .bool (decide (i < 88)) := e53.2.2.1
      refine wp_cond_true (s56_44.trans (by rw [y55])) ?_
      have s57_2 : a1.eval (.tmp 2) = .pointer (some ⟨b1, 0, none⟩) := (u1.here _ rfl)
      have s58_2 := ((q53 2 rfl).trans ((q41 2 rfl).trans ((q28 2 rfl).trans ((q16 2 rfl).trans ((q7 2 rfl).trans ((u3.past 2 rfl).trans s57_2))))))
      have hb1_59 := (Ext.keep t53 (Ext.keep t41 hb1_29))
      have s60_1 := ((q53 1 rfl).trans s52_1)
      refine rgs mixed 63 [.eq (.pointer (some ⟨b1, 3, none⟩)), .eq (.int .u16 hsp), .eq (.int .i64 i), .eq (.int .i64 (i - 72)), .eq (.int .i64 (15 - (i - 72))), .eq (.int .u16 (hsp.fdiv (2 ^ min (15 - (i - 72)).toNat IntKind.u16.bits))), .eq (.int .u16 (ibits .and .u16 (hsp.fdiv (2 ^ min (15 - (i - 72)).toNat IntKind.u16.bits)) 1)), .eq (.bool (decide ((ibits .and .u16 (hsp.fdiv (2 ^ min (15 - (i - 72)).toNat IntKind.u16.bits)) 1) = 1))), .eq (.bool (decide ((ibits .and .u16 (hsp.fdiv (2 ^ min (15 - (i - 72)).toNat IntKind.u16.bits)) 1) = 1)))] [[(2, none)], [(47, some 0)], [(1, none)], [(49, some 2)], [(50, some 3)], [(48, some 1), (51, some 4)], [(52, some 5)], [(53, some 6)], [(54, some 7)]] d53 z53 (by kernel_rfl) ⟨Ov rfl rfl fun _ _ T ⟨k2, _⟩ => ex_fieldAddr (k2.trans s58_2) (fa_31_3 _ _ _),
       Ov rfl rfl fun _ _ T ⟨k47, _⟩ => ex_load k47 (Try.isAgg25 _) (cell_of (Ext.keep T.ext hb1_59) rfl),
       Ov rfl rfl fun _ _ T ⟨k1, _⟩ => ex_move (k1.trans s60_1),
       Ov rfl rfl fun _ _ T ⟨k49, _⟩ => ex_sub64 k49 rfl (by omega),
       Ov rfl rfl fun _ _ T ⟨k50, _⟩ => ex_sub64 rfl k50 (by omega),
       Ov rfl rfl fun _ _ T ⟨k48, k51, _⟩ => ex_shr k48 k51 (by omega),
       Ov rfl rfl fun _ _ T ⟨k52, _⟩ => ex_and k52 rfl,
       Ov rfl rfl fun _ _ T ⟨k53, _⟩ => ex_eql k53 rfl,
       Ov rfl rfl fun _ _ T ⟨k54, _⟩ => ex_assign k54,
       trivial⟩ ?_
      intro a61 w61 d61 z61 t61 e61 q61
      refine wp_ret ?_
      have s62_4 : a61.eval (.tmp 4) = .bool (decide ((ibits .and .u16 (hsp.fdiv (2 ^ min (15 - (i - 72)).toNat IntKind.u16.bits)) 1) = 1)) := e61.2.2.2.2.2.2.2.2.1
      repeat (first | (with_reducible refine then_ret ?_) | (with_reducible refine block_ret ?_))
      refine retl (rs := [.tmp 4]) Try.results61 ⟨s62_4, trivial⟩ d61 ?_
      have x63 := (Touch.trans x54 (Ext.touch t61))
      exact ⟨by unfold hbit; rw [if_neg (by rw [y9]; decide), if_neg c17, if_neg c31, if_neg c42, if_pos c55], x63.ext⟩
     ·have y55 := decide_eq_false c55
      have s64_44 : a53.eval (.tmp 44) = .bool (decide (i < 88)) := e53.2.2.1
      refine wp_cond_false (s64_44.trans (by rw [y55])) ?_
      refine wp_skip ?_
      repeat (with_reducible refine block_norm ?_)
      refine hK5 _ _ ?_
      have s65_2 : a1.eval (.tmp 2) = .pointer (some ⟨b1, 0, none⟩) := (u1.here _ rfl)
      have s66_2 := ((q53 2 rfl).trans ((q41 2 rfl).trans ((q28 2 rfl).trans ((q16 2 rfl).trans ((q7 2 rfl).trans ((u3.past 2 rfl).trans s65_2))))))
      have hb1_67 := (Ext.keep t53 (Ext.keep t41 hb1_29))
      have s68_1 := ((q53 1 rfl).trans s52_1)
      refine rgs mixed 63 [.eq (.pointer (some ⟨b1, 4, none⟩)), .eq (.int .u16 hdp), .eq (.int .i64 i), .eq (.int .i64 (i - 88)), .eq (.int .i64 (15 - (i - 88))), .eq (.int .u16 (hdp.fdiv (2 ^ min (15 - (i - 88)).toNat IntKind.u16.bits))), .eq (.int .u16 (ibits .and .u16 (hdp.fdiv (2 ^ min (15 - (i - 88)).toNat IntKind.u16.bits)) 1)), .eq (.bool (decide ((ibits .and .u16 (hdp.fdiv (2 ^ min (15 - (i - 88)).toNat IntKind.u16.bits)) 1) = 1))), .eq (.bool (decide ((ibits .and .u16 (hdp.fdiv (2 ^ min (15 - (i - 88)).toNat IntKind.u16.bits)) 1) = 1)))] [[(2, none)], [(55, some 0)], [(1, none)], [(57, some 2)], [(58, some 3)], [(56, some 1), (59, some 4)], [(60, some 5)], [(61, some 6)], [(62, some 7)]] d53 z53 (by kernel_rfl) ⟨Ov rfl rfl fun _ _ T ⟨k2, _⟩ => ex_fieldAddr (k2.trans s66_2) (fa_31_4 _ _ _),
       Ov rfl rfl fun _ _ T ⟨k55, _⟩ => ex_load k55 (Try.isAgg25 _) (cell_of (Ext.keep T.ext hb1_67) rfl),
       Ov rfl rfl fun _ _ T ⟨k1, _⟩ => ex_move (k1.trans s68_1),
       Ov rfl rfl fun _ _ T ⟨k57, _⟩ => ex_sub64 k57 rfl (by omega),
       Ov rfl rfl fun _ _ T ⟨k58, _⟩ => ex_sub64 rfl k58 (by omega),
       Ov rfl rfl fun _ _ T ⟨k56, k59, _⟩ => ex_shr k56 k59 (by omega),
       Ov rfl rfl fun _ _ T ⟨k60, _⟩ => ex_and k60 rfl,
       Ov rfl rfl fun _ _ T ⟨k61, _⟩ => ex_eql k61 rfl,
       Ov rfl rfl fun _ _ T ⟨k62, _⟩ => ex_assign k62,
       trivial⟩ ?_
      intro a69 w69 d69 z69 t69 e69 q69
      refine wp_ret ?_
      have s70_4 : a69.eval (.tmp 4) = .bool (decide ((ibits .and .u16 (hdp.fdiv (2 ^ min (15 - (i - 88)).toNat IntKind.u16.bits)) 1) = 1)) := e69.2.2.2.2.2.2.2.2.1
      repeat (first | (with_reducible refine then_ret ?_) | (with_reducible refine block_ret ?_))
      refine retl (rs := [.tmp 4]) Try.results61 ⟨s70_4, trivial⟩ d69 ?_
      have x71 := (Touch.trans x54 (Ext.touch t69))
      exact ⟨by unfold hbit; rw [if_neg (by rw [y9]; decide), if_neg c17, if_neg c31, if_neg c42, if_neg c55], x71.ext⟩

def wup (ch : Int) (cl : Int) (n : Int) : Int × Int := if ((decide (n < 0)) || (decide (128 ≤ n))) = true then (0, 0) else if 64 ≤ n then (IntKind.u64.wrap (cl * 2 ^ min (n - 64).toNat IntKind.u64.bits), 0) else if n = 0 then (ch, cl) else (ibits .or .u64 (IntKind.u64.wrap (ch * 2 ^ min (n).toNat IntKind.u64.bits)) (cl.fdiv (2 ^ min (64 - n).toNat IntKind.u64.bits)), IntKind.u64.wrap (cl * 2 ^ min (n).toNat IntKind.u64.bits))
set_option maxRecDepth 100000 in
set_option maxHeartbeats 4000000 in
theorem c_wup (ch : Int) (cl : Int) (n : Int) (w : World) : Calls Try.prog 77 #[.agg #[.int .u64 ch, .int .u64 cl], .int .i64 n] w fun e w' => e = .returned (.agg #[.int .u64 (wup ch cl n).1, .int .u64 (wup ch cl n).2]) ∧ Ext w w' := by
 refine enter 41 Try.ntmps77 Try.func77 rfl (Nat.le_of_ble_eq_true rfl) fun a0 d0 z0 hargs => ?_
 have s0_0 : a0.eval (.tmp 0) = .agg #[.int .u64 ch, .int .u64 cl] := hargs 0 _ rfl
 have s0_1 : a0.eval (.tmp 1) = .int .i64 n := hargs 1 _ rfl
 have x0 := Touch.refl NoF w
 refine wp_seq ?_
 refine seq_begin ?_
 refine sbox z0 rfl s0_0 ?_; intro b1 w1 a1 t1 g1 hb1 u1 z1
 have yb1_2 := Nat.le_trans (Touch.size x0) g1
 refine salloc z1 rfl (zv_57 _) ?_; intro b3 w3 a3 t3 g3 hb3 u3 z3
 have n4_b1_b3 := ne_lt (lt_of hb1) g3
 have x6 := (Touch.trans x0 (Ext.touch t1))
 have yb3_5 := Nat.le_trans (Touch.size x6) g3
 have d7 := (u3.defs.trans (u1.defs.trans d0))
 refine seq_end ?_
 refine then_norm ?_
 refine wp_seq_k fun K8 hK8 => ?_
 refine wp_block ?_
 have s9_1 := ((u3.past 1 rfl).trans ((u1.past 1 rfl).trans s0_1))
 refine rgs mixed 41 [.eq (.int .i64 n), .eq (.bool (decide (n < 0))), .eq (.bool (decide (n < 0))), .eq (if (decide (n < 0)) = false then .int .i64 n else undef), .eq (if (decide (n < 0)) = false then .bool (decide (128 ≤ n)) else undef), .eq (.bool ((decide (n < 0)) || (decide (128 ≤ n)))), .eq (.bool ((decide (n < 0)) || (decide (128 ≤ n))))] [[(1, none)], [(6, some 0)], [(7, some 1)], [(1, none), (8, some 2)], [(9, some 3), (8, some 2)], [(8, some 2), (10, some 4)], [(11, some 5)]] d7 z3 (by kernel_rfl) ⟨Ov rfl rfl fun _ _ T ⟨k1, _⟩ => ex_move (k1.trans s9_1),
  Ov rfl rfl fun _ _ T ⟨k6, _⟩ => ex_lss k6 rfl,
  Ov rfl rfl fun _ _ T ⟨k7, _⟩ => ex_move k7,
  Og rfl rfl rfl fun _ _ T ⟨k1, k8, _⟩ => ⟨k8, fun hcQ => ex_move (k1.trans s9_1)⟩,
  Og rfl rfl rfl fun _ _ T ⟨k9, k8, _⟩ => ⟨k8, fun hcQ => ex_geq (k9.trans (if_pos hcQ)) rfl⟩,
  Ov rfl rfl fun _ _ T ⟨k8, k10, _⟩ => ex_pick_or k8 rfl k10,
  Ov rfl rfl fun _ _ T ⟨k11, _⟩ => ex_assign k11,
  trivial⟩ ?_
 intro a10 w10 d10 z10 t10 e10 q10
 have x11 := (Touch.trans (Touch.trans x6 (Ext.touch t3)) (Ext.touch t10))
 rcases Bool.eq_false_or_eq_true ((decide (n < 0)) || (decide (128 ≤ n))) with y12 | y12
 ·have c12 := y12; try simp only [Bool.and_eq_true, Bool.or_eq_true, Bool.and_eq_false_iff, Bool.or_eq_false_iff, Bool.not_eq_true', Bool.not_eq_false', decide_eq_true_eq, decide_eq_false_iff_not] at c12
  have s13_5 : a10.eval (.tmp 5) = .bool ((decide (n < 0)) || (decide (128 ≤ n))) := e10.2.2.2.2.2.2.1
  refine wp_cond_true (s13_5.trans (by rw [y12])) ?_
  refine wp_seq ?_
  refine seq_begin ?_
  refine sp z10 rfl rfl (exl_build nil_parts (bd_57_ _)) ?_; intro a14 u14 z14
  have hb3_16 := (Ext.keep t10 hb3)
  refine sstore (cs := [.int .u64 0, .int .u64 0]) (vs := [.int .u64 0, .int .u64 0]) (cs' := [.int .u64 0, .int .u64 0]) z14 rfl ((u14.past 4 rfl).trans ((q10 4 rfl).trans (u3.here _ rfl))) (u14.here _ rfl) hb3_16 (Try.sizeOf57 _) rfl rfl (by decide) (Nat.le_of_ble_eq_true rfl) rfl rfl ?_; intro w15 a15 t15 u15 z15
  have d17 := (u15.defs.trans (u14.defs.trans d10))
  refine seq_end ?_
  refine then_norm ?_
  refine wp_ret ?_
  have s18_4 : a3.eval (.tmp 4) = .pointer (some ⟨b3, 0, none⟩) := (u3.here _ rfl)
  have s19_4 := ((u15.past 4 rfl).trans ((u14.past 4 rfl).trans ((q10 4 rfl).trans s18_4)))
  repeat (first | (with_reducible refine then_ret ?_) | (with_reducible refine block_ret ?_))
  refine retl (rs := [.cell 4 57]) Try.results77 ⟨⟨_, s19_4, run_loadVarA (cs := [.int .u64 0, .int .u64 0]) (Try.isAgg57 _) (Try.sizeOf57 _) (cells_of (off := 0) t15.here rfl)⟩, trivial⟩ d17 ?_
  have x20 := (Touch.turn x11 t15 (Or.inr yb3_5))
  exact ⟨by unfold wup; rw [if_pos y12], x20.ext⟩
 ·have c12 := y12; try simp only [Bool.and_eq_true, Bool.or_eq_true, Bool.and_eq_false_iff, Bool.or_eq_false_iff, Bool.not_eq_true', Bool.not_eq_false', decide_eq_true_eq, decide_eq_false_iff_not] at c12
  have s21_5 : a10.eval (.tmp 5) = .bool ((decide (n < 0)) || (decide (128 ≤ n))) := e10.2.2.2.2.2.2.1
  refine wp_cond_false (s21_5.trans (by rw [y12])) ?_
  have s22_1 := ((q10 1 rfl).trans s9_1)
  refine rgs mixed 41 [.eq (.int .i64 n), .eq (.bool (decide (64 ≤ n))), .eq (.bool (decide (64 ≤ n)))] [[(1, none)], [(14, some 0)], [(15, some 1)]] d10 z10 (by kernel_rfl) ⟨Ov rfl rfl fun _ _ T ⟨k1, _⟩ => ex_move (k1.trans s22_1), Ov rfl rfl fun _ _ T ⟨k14, _⟩ => ex_geq k14 rfl, Ov rfl rfl fun _ _ T ⟨k15, _⟩ => ex_assign k15, trivial⟩ ?_
  intro a23 w23 d23 z23 t23 e23 q23
  have hb1_24 := (Ext.keep t23 (Ext.keep t10 (Ext.keep t3 hb1)))
  by_cases c25 : 64 ≤ n
  ·have y25 := decide_eq_true c25
   have s26_13 : a23.eval (.tmp 13) = .bool (decide (64 ≤ n)) := e23.2.2.1
   refine wp_cond_true (s26_13.trans (by rw [y25])) ?_
   refine wp_seq ?_
   refine seq_begin ?_
   refine sp z23 rfl rfl (ex_fieldAddr ((q23 2 rfl).trans ((q10 2 rfl).trans ((u3.past 2 rfl).trans (u1.here _ rfl)))) (fa_57_1 _ _ _)) ?_; intro a27 u27 z27
   refine sp z27 rfl rfl (ex_load (u27.here _ rfl) (Try.isAgg55 _) (cell_of hb1_24 rfl)) ?_; intro a28 u28 z28
   refine sp z28 rfl rfl (ex_move ((u28.past 1 rfl).trans ((u27.past 1 rfl).trans ((q23 1 rfl).trans s22_1)))) ?_; intro a29 u29 z29
   refine sp z29 rfl rfl (ex_sub64 (u29.here _ rfl) rfl (by omega)) ?_; intro a30 u30 z30
   refine sp z30 rfl rfl (ex_shl ((u30.past 17 rfl).trans ((u29.past 17 rfl).trans (u28.here _ rfl))) (u30.here _ rfl) (by omega)) ?_; intro a31 u31 z31
   refine sp z31 rfl rfl (exl_build (cons_parts (u31.here _ rfl) nil_parts) (bd_57_0Iu64 (IntKind.u64.wrap (cl * 2 ^ min (n - 64).toNat IntKind.u64.bits)) _)) ?_; intro a32 u32 z32
   have p34 := fr4 u27.past u28.past u29.past u30.past
   have hb3_35 := (Ext.keep t23 (Ext.keep t10 hb3))
   refine sstore (cs := [.int .u64 0, .int .u64 0]) (vs := [.int .u64 (IntKind.u64.wrap (cl * 2 ^ min (n - 64).toNat IntKind.u64.bits)), .int .u64 0]) (cs' := [.int .u64 (IntKind.u64.wrap (cl * 2 ^ min (n - 64).toNat IntKind.u64.bits)), .int .u64 0]) z32 rfl ((u32.past 4 rfl).trans ((u31.past 4 rfl).trans ((p34 4 rfl).trans ((q23 4 rfl).trans ((q10 4 rfl).trans (u3.here _ rfl)))))) (u32.here _ rfl) hb3_35 (Try.sizeOf57 _) rfl rfl (by decide) (Nat.le_of_ble_eq_true rfl) rfl rfl ?_; intro w33 a33 t33 u33 z33
   have d36 := (u33.defs.trans (u32.defs.trans (u31.defs.trans (u30.defs.trans (u29.defs.trans (u28.defs.trans (u27.defs.trans d23)))))))
   refine seq_end ?_
   refine then_norm ?_
   refine wp_ret ?_
   have s37_4 : a3.eval (.tmp 4) = .pointer (some ⟨b3, 0, none⟩) := (u3.here _ rfl)
   have s38_4 := ((u33.past 4 rfl).trans ((u32.past 4 rfl).trans ((u31.past 4 rfl).trans ((p34 4 rfl).trans ((q23 4 rfl).trans ((q10 4 rfl).trans s37_4))))))
   repeat (first | (with_reducible refine then_ret ?_) | (with_reducible refine block_ret ?_))
   refine retl (rs := [.cell 4 57]) Try.results77 ⟨⟨_, s38_4, run_loadVarA (cs := [.int .u64 (IntKind.u64.wrap (cl * 2 ^ min (n - 64).toNat IntKind.u64.bits)), .int .u64 0]) (Try.isAgg57 _) (Try.sizeOf57 _) (cells_of (off := 0) t33.here rfl)⟩, trivial⟩ d36 ?_
   have x39 := (Touch.turn (Touch.trans x11 (Ext.touch t23)) t33 (Or.inr yb3_5))
   exact ⟨by unfold wup; rw [if_neg (by rw [y12]; decide), if_pos c25], x39.ext⟩
  ·have y25 := decide_eq_false c25
   have s40_13 : a23.eval (.tmp 13) = .bool (decide (64 ≤ n)) := e23.2.2.1
   refine wp_cond_false (s40_13.trans (by rw [y25])) ?_
   have s41_1 := ((q23 1 rfl).trans s22_1)
   refine rgs mixed 41 [.eq (.int .i64 n), .eq (.bool (decide (n = 0))), .eq (.bool (decide (n = 0)))] [[(1, none)], [(23, some 0)], [(24, some 1)]] d23 z23 (by kernel_rfl) ⟨Ov rfl rfl fun _ _ T ⟨k1, _⟩ => ex_move (k1.trans s41_1), Ov rfl rfl fun _ _ T ⟨k23, _⟩ => ex_eql k23 rfl, Ov rfl rfl fun _ _ T ⟨k24, _⟩ => ex_assign k24, trivial⟩ ?_
   intro a42 w42 d42 z42 t42 e42 q42
   have hb3_43 := (Ext.keep t42 (Ext.keep t23 (Ext.keep t10 hb3)))
   have x44 := (Touch.trans (Touch.trans x11 (Ext.touch t23)) (Ext.touch t42))
   by_cases c45 : n = 0
   ·have y45 := decide_eq_true c45
    have s46_22 : a42.eval (.tmp 22) = .bool (decide (n = 0)) := e42.2.2.1
    refine wp_cond_true (s46_22.trans (by rw [y45])) ?_
    refine wp_seq ?_
    refine seq_begin ?_
    have hb1_48 := (Ext.keep t42 hb1_24)
    refine sp z42 rfl rfl (ex_loadAgg (cs := [.int .u64 ch, .int .u64 cl]) ((q42 2 rfl).trans ((q23 2 rfl).trans ((q10 2 rfl).trans ((u3.past 2 rfl).trans (u1.here _ rfl))))) (Try.isAgg57 _) (Try.sizeOf57 _) (cells_of (off := 0) hb1_48 rfl)) ?_; intro a47 u47 z47
    refine sstore (cs := [.int .u64 0, .int .u64 0]) (vs := [.int .u64 ch, .int .u64 cl]) (cs' := [.int .u64 ch, .int .u64 cl]) z47 rfl ((u47.past 4 rfl).trans ((q42 4 rfl).trans ((q23 4 rfl).trans ((q10 4 rfl).trans (u3.here _ rfl))))) (u47.here _ rfl) hb3_43 (Try.sizeOf57 _) rfl rfl (by decide) (Nat.le_of_ble_eq_true rfl) rfl rfl ?_; intro w49 a49 t49 u49 z49
    have d50 := (u49.defs.trans (u47.defs.trans d42))
    refine seq_end ?_
    refine then_norm ?_
    refine wp_ret ?_
    have s51_4 : a3.eval (.tmp 4) = .pointer (some ⟨b3, 0, none⟩) := (u3.here _ rfl)
    have s52_4 := ((u49.past 4 rfl).trans ((u47.past 4 rfl).trans ((q42 4 rfl).trans ((q23 4 rfl).trans ((q10 4 rfl).trans s51_4)))))
    repeat (first | (with_reducible refine then_ret ?_) | (with_reducible refine block_ret ?_))
    refine retl (rs := [.cell 4 57]) Try.results77 ⟨⟨_, s52_4, run_loadVarA (cs := [.int .u64 ch, .int .u64 cl]) (Try.isAgg57 _) (Try.sizeOf57 _) (cells_of (off := 0) t49.here rfl)⟩, trivial⟩ d50 ?_
    have x53 := (Touch.turn x44 t49 (Or.inr yb3_5))
    exact ⟨by unfold wup; rw [if_neg (by rw [y12]; decide), if_neg c25, if_pos c45], x53.ext⟩
   ·have y45 := decide_eq_false c45
    have s54_22 : a42.eval (.tmp 22) = .bool (decide (n = 0)) := e42.2.2.1
    refine wp_cond_false (s54_22.trans (by rw [y45])) ?_
    refine wp_skip ?_
    repeat (with_reducible refine block_norm ?_)
    refine hK8 _ _ ?_
    have s55_2 : a1.eval (.tmp 2) = .pointer (some ⟨b1, 0, none⟩) := (u1.here _ rfl)
    have s56_2 := ((q42 2 rfl).trans ((q23 2 rfl).trans ((q10 2 rfl).trans ((u3.past 2 rfl).trans s55_2))))
    have hb1_57 := (Ext.keep t42 hb1_24)
    have s58_1 := ((q42 1 rfl).trans s41_1)
    have s59_4 : a3.eval (.tmp 4) = .pointer (some ⟨b3, 0, none⟩) := (u3.here _ rfl)
    have s60_4 := ((q42 4 rfl).trans ((q23 4 rfl).trans ((q10 4 rfl).trans s59_4)))
    refine wp_seq ?_
    refine rt mixed 41 b3 15 _ [.eq (.pointer (some ⟨b1, 0, none⟩)), .eq (.int .u64 ch), .eq (.int .i64 n), .eq (.int .u64 (IntKind.u64.wrap (ch * 2 ^ min (n).toNat IntKind.u64.bits))), .eq (.pointer (some ⟨b1, 1, none⟩)), .eq (.int .u64 cl), .eq (.int .i64 n), .eq (.int .i64 (64 - n)), .eq (.int .u64 (cl.fdiv (2 ^ min (64 - n).toNat IntKind.u64.bits))), .eq (.int .u64 (ibits .or .u64 (IntKind.u64.wrap (ch * 2 ^ min (n).toNat IntKind.u64.bits)) (cl.fdiv (2 ^ min (64 - n).toNat IntKind.u64.bits)))), .eq (.pointer (some ⟨b1, 1, none⟩)), .eq (.int .u64 cl), .eq (.int .i64 n), .eq (.int .u64 (IntKind.u64.wrap (cl * 2 ^ min (n).toNat IntKind.u64.bits))), .eq (.agg #[.int .u64 (ibits .or .u64 (IntKind.u64.wrap (ch * 2 ^ min (n).toNat IntKind.u64.bits)) (cl.fdiv (2 ^ min (64 - n).toNat IntKind.u64.bits))), .int .u64 (IntKind.u64.wrap (cl * 2 ^ min (n).toNat IntKind.u64.bits))]), .any] [[(2, none)], [(26, some 0)], [(1, none)], [(27, some 1), (28, some 2)], [(2, none)], [(30, some 4)], [(1, none)], [(32, some 6)], [(31, some 5), (33, some 7)], [(29, some 3), (34, some 8)], [(2, none)], [(36, some 10)], [(1, none)], [(37, some 11), (38, some 12)], [(35, some 9), (39, some 13)], [(4, none), (40, some 14)]] d42 z42 (by kernel_rfl) rfl ⟨Oh rfl (by kernel_rfl) rfl fun _ _ T ⟨k2, _⟩ => ex_fieldAddr (k2.trans s56_2) (fa_57_0 _ _ _),
     Oh rfl (by kernel_rfl) rfl fun _ _ T ⟨k26, _⟩ => ex_load k26 (Try.isAgg55 _) (cell_of (Ext.keep T hb1_57) rfl),
     Oh rfl (by kernel_rfl) rfl fun _ _ T ⟨k1, _⟩ => ex_move (k1.trans s58_1),
     Oh rfl (by kernel_rfl) rfl fun _ _ T ⟨k27, k28, _⟩ => ex_shl k27 k28 (by omega),
     Oh rfl (by kernel_rfl) rfl fun _ _ T ⟨k2, _⟩ => ex_fieldAddr (k2.trans s56_2) (fa_57_1 _ _ _),
     Oh rfl (by kernel_rfl) rfl fun _ _ T ⟨k30, _⟩ => ex_load k30 (Try.isAgg55 _) (cell_of (Ext.keep T hb1_57) rfl),
     Oh rfl (by kernel_rfl) rfl fun _ _ T ⟨k1, _⟩ => ex_move (k1.trans s58_1),
     Oh rfl (by kernel_rfl) rfl fun _ _ T ⟨k32, _⟩ => ex_sub64 rfl k32 (by omega),
     Oh rfl (by kernel_rfl) rfl fun _ _ T ⟨k31, k33, _⟩ => ex_shr k31 k33 (by omega),
     Oh rfl (by kernel_rfl) rfl fun _ _ T ⟨k29, k34, _⟩ => ex_or k29 k34,
     Oh rfl (by kernel_rfl) rfl fun _ _ T ⟨k2, _⟩ => ex_fieldAddr (k2.trans s56_2) (fa_57_1 _ _ _),
     Oh rfl (by kernel_rfl) rfl fun _ _ T ⟨k36, _⟩ => ex_load k36 (Try.isAgg55 _) (cell_of (Ext.keep T hb1_57) rfl),
     Oh rfl (by kernel_rfl) rfl fun _ _ T ⟨k1, _⟩ => ex_move (k1.trans s58_1),
     Oh rfl (by kernel_rfl) rfl fun _ _ T ⟨k37, k38, _⟩ => ex_shl k37 k38 (by omega),
     Oh rfl (by kernel_rfl) rfl fun _ _ T ⟨k35, k39, _⟩ => exl_build (cons_parts k35 (cons_parts k39 nil_parts)) (bd_57_0Iu64_1Iu64 (ibits .or .u64 (IntKind.u64.wrap (ch * 2 ^ min (n).toNat IntKind.u64.bits)) (cl.fdiv (2 ^ min (64 - n).toNat IntKind.u64.bits))) (IntKind.u64.wrap (cl * 2 ^ min (n).toNat IntKind.u64.bits)) _),
     Ot (cs := [.int .u64 0, .int .u64 0]) (vs := [.int .u64 (ibits .or .u64 (IntKind.u64.wrap (ch * 2 ^ min (n).toNat IntKind.u64.bits)) (cl.fdiv (2 ^ min (64 - n).toNat IntKind.u64.bits))), .int .u64 (IntKind.u64.wrap (cl * 2 ^ min (n).toNat IntKind.u64.bits))]) (cs' := [.int .u64 (ibits .or .u64 (IntKind.u64.wrap (ch * 2 ^ min (n).toNat IntKind.u64.bits)) (cl.fdiv (2 ^ min (64 - n).toNat IntKind.u64.bits))), .int .u64 (IntKind.u64.wrap (cl * 2 ^ min (n).toNat IntKind.u64.bits))]) (by kernel_rfl) hb3_43 Try.sizeOf57 rfl rfl (by decide) (Nat.le_of_ble_eq_true rfl) rfl rfl fun _ _ T ⟨k4, k40, _⟩ => ⟨(k4.trans s60_4), k40⟩,
     trivial⟩ ?_
    intro a61 w61 d61 z61 t61 e61 q61
    refine wp_ret ?_
    have s62_4 := ((q61 4 rfl).trans s60_4)
    repeat (first | (with_reducible refine then_ret ?_) | (with_reducible refine block_ret ?_))
    refine retl (rs := [.cell 4 57]) Try.results77 ⟨⟨_, s62_4, run_loadVarA (cs := [.int .u64 (ibits .or .u64 (IntKind.u64.wrap (ch * 2 ^ min (n).toNat IntKind.u64.bits)) (cl.fdiv (2 ^ min (64 - n).toNat IntKind.u64.bits))), .int .u64 (IntKind.u64.wrap (cl * 2 ^ min (n).toNat IntKind.u64.bits))]) (Try.isAgg57 _) (Try.sizeOf57 _) (cells_of (off := 0) t61.here rfl)⟩, trivial⟩ d61 ?_
    have x63 := (Touch.turn x44 t61 (Or.inr yb3_5))
    exact ⟨by unfold wup; rw [if_neg (by rw [y12]; decide), if_neg c25, if_neg c45], x63.ext⟩

def wpow (n : Int) : Int × Int := ((wup ((wof 1).1) ((wof 1).2) n).1, (wup ((wof 1).1) ((wof 1).2) n).2)
set_option maxRecDepth 100000 in
set_option maxHeartbeats 4000000 in
theorem c_wpow (n : Int) (w : World) : Calls Try.prog 67 #[.int .i64 n] w fun e w' => e = .returned (.agg #[.int .u64 (wpow n).1, .int .u64 (wpow n).2]) ∧ Ext w w' := by
 refine enter 6 Try.ntmps67 Try.func67 rfl (Nat.le_of_ble_eq_true rfl) fun a0 d0 z0 hargs => ?_
 have s0_0 : a0.eval (.tmp 0) = .int .i64 n := hargs 0 _ rfl
 have x0 := Touch.refl NoF w
 refine wp_seq ?_
 refine seq_begin ?_
 refine salloc z0 rfl (zv_57 _) ?_; intro b1 w1 a1 t1 g1 hb1 u1 z1
 have yb1_2 := Nat.le_trans (Touch.size x0) g1
 have d3 := (u1.defs.trans d0)
 refine seq_end ?_
 refine then_norm ?_
 refine wp_seq ?_
 refine seq_begin ?_
 refine scx z1 rfl rfl (exl_call Try.func105 rfl rfl (cons_ops rfl nil_ops)) (c_wof 1  _) ?_; intro w4 a4 t4 u4 z4
 refine sp z4 rfl rfl (ex_move ((u4.past 0 rfl).trans ((u1.past 0 rfl).trans s0_0))) ?_; intro a5 u5 z5
 refine scx z5 rfl rfl (exl_call Try.func77 rfl rfl (cons_ops ((u5.past 3 rfl).trans (u4.here _ rfl)) (cons_ops (u5.here _ rfl) nil_ops))) (c_wup ((wof 1).1) ((wof 1).2) n  _) ?_; intro w6 a6 t6 u6 z6
 have hb1_8 := (Ext.keep t6 (Ext.keep t4 hb1))
 refine sstore (cs := [.int .u64 0, .int .u64 0]) (vs := [.int .u64 ((wup ((wof 1).1) ((wof 1).2) n).1), .int .u64 ((wup ((wof 1).1) ((wof 1).2) n).2)]) (cs' := [.int .u64 ((wup ((wof 1).1) ((wof 1).2) n).1), .int .u64 ((wup ((wof 1).1) ((wof 1).2) n).2)]) z6 rfl ((u6.past 2 rfl).trans ((u5.past 2 rfl).trans ((u4.past 2 rfl).trans (u1.here _ rfl)))) (u6.here _ rfl) hb1_8 (Try.sizeOf57 _) rfl rfl (by decide) (Nat.le_of_ble_eq_true rfl) rfl rfl ?_; intro w7 a7 t7 u7 z7
 have d9 := (u7.defs.trans (u6.defs.trans (u5.defs.trans (u4.defs.trans d3))))
 refine seq_end ?_
 refine then_norm ?_
 refine wp_ret ?_
 have s10_2 : a1.eval (.tmp 2) = .pointer (some ⟨b1, 0, none⟩) := (u1.here _ rfl)
 have s11_2 := ((u7.past 2 rfl).trans ((u6.past 2 rfl).trans ((u5.past 2 rfl).trans ((u4.past 2 rfl).trans s10_2))))
 repeat (first | (with_reducible refine then_ret ?_) | (with_reducible refine block_ret ?_))
 refine retl (rs := [.cell 2 57]) Try.results67 ⟨⟨_, s11_2, run_loadVarA (cs := [.int .u64 ((wup ((wof 1).1) ((wof 1).2) n).1), .int .u64 ((wup ((wof 1).1) ((wof 1).2) n).2)]) (Try.isAgg57 _) (Try.sizeOf57 _) (cells_of (off := 0) t7.here rfl)⟩, trivial⟩ d9 ?_
 have x12 := (Touch.turn (Touch.trans (Touch.trans (Touch.trans x0 (Ext.touch t1)) (Ext.touch t4)) (Ext.touch t6)) t7 (Or.inr yb1_2))
 exact ⟨by unfold wpow; rfl, x12.ext⟩

end Go.Proofs.Yticodddigaiipaa
