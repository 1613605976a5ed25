/-
  Contracts of functions of the given program, each proved by a walk through its code: what a call answers, and what it leaves of memory; conditions: those ahead of each theorem's colon.
-/
import Derived.Test.YticodddigaiipaaK12
import Derived.Test.YticodddigaiipaaProg
set_option linter.unusedVariables false
set_option linter.unusedSimpArgs false
namespace Go.Proofs.Yticodddigaiipaa
open Go.RowKit
theorem fa_24_1 (b off : Nat) (w : World) : (Instr.fieldAt 24 (.pointer (some ⟨b, off, none⟩)) 1).run Try.prog w = .ok (.pointer (some ⟨b, off + 1, none⟩)) w := by kernel_rfl
theorem fa_24_0 (b off : Nat) (w : World) : (Instr.fieldAt 24 (.pointer (some ⟨b, off, none⟩)) 0).run Try.prog w = .ok (.pointer (some ⟨b, off, none⟩)) w := by kernel_rfl
theorem zv_24 (w : World) : (zeroValue 24).run Try.prog w = .ok (.agg #[.int .u32 0, .int .i64 0]) w := by kernel_rfl
theorem bd_24_0Iu32_1Ii64 (x0 : Int) (x1 : Int) (w : World) : (Instr.build 24 #[(0, .int .u32 x0), (1, .int .i64 x1)]).run Try.prog w = .ok (.agg #[.int .u32 x0, .int .i64 x1]) w := by kernel_rfl
theorem fa_27_0 (b off : Nat) (w : World) : (Instr.fieldAt 27 (.pointer (some ⟨b, off, none⟩)) 0).run Try.prog w = .ok (.pointer (some ⟨b, off, none⟩)) w := by kernel_rfl
theorem fa_27_1 (b off : Nat) (w : World) : (Instr.fieldAt 27 (.pointer (some ⟨b, off, none⟩)) 1).run Try.prog w = .ok (.pointer (some ⟨b, off + 1, none⟩)) w := by kernel_rfl
theorem fa_29_0 (b off : Nat) (w : World) : (Instr.fieldAt 29 (.pointer (some ⟨b, off, none⟩)) 0).run Try.prog w = .ok (.pointer (some ⟨b, off, none⟩)) w := by kernel_rfl
theorem fa_31_0 (b off : Nat) (w : World) : (Instr.fieldAt 31 (.pointer (some ⟨b, off, none⟩)) 0).run Try.prog w = .ok (.pointer (some ⟨b, off, none⟩)) w := by kernel_rfl
theorem fa_29_1 (b off : Nat) (w : World) : (Instr.fieldAt 29 (.pointer (some ⟨b, off, none⟩)) 1).run Try.prog w = .ok (.pointer (some ⟨b, off + 2, none⟩)) w := by kernel_rfl
theorem fa_31_1 (b off : Nat) (w : World) : (Instr.fieldAt 31 (.pointer (some ⟨b, off, none⟩)) 1).run Try.prog w = .ok (.pointer (some ⟨b, off + 1, none⟩)) w := by kernel_rfl
theorem fa_29_2 (b off : Nat) (w : World) : (Instr.fieldAt 29 (.pointer (some ⟨b, off, none⟩)) 2).run Try.prog w = .ok (.pointer (some ⟨b, off + 4, none⟩)) w := by kernel_rfl
theorem fa_31_2 (b off : Nat) (w : World) : (Instr.fieldAt 31 (.pointer (some ⟨b, off, none⟩)) 2).run Try.prog w = .ok (.pointer (some ⟨b, off + 2, none⟩)) w := by kernel_rfl
theorem cv_5_3 {n : Int} {w : World} : (convert 5 3 (.int .u8 n)).run Try.prog w = .ok (.int .i64 (IntKind.i64.wrap n)) w := run_conv Try.underlying5 Try.underlying3
theorem cvn_5_3 {n : Int} {w : World} (h : -9223372036854775808 ≤ n ∧ n ≤ 9223372036854775807) : (convert 5 3 (.int .u8 n)).run Try.prog w = .ok (.int .i64 n) w := by rw [cv_5_3, wrap_i64 h]
theorem fa_29_3 (b off : Nat) (w : World) : (Instr.fieldAt 29 (.pointer (some ⟨b, off, none⟩)) 3).run Try.prog w = .ok (.pointer (some ⟨b, off + 5, none⟩)) w := by kernel_rfl
theorem fa_31_3 (b off : Nat) (w : World) : (Instr.fieldAt 31 (.pointer (some ⟨b, off, none⟩)) 3).run Try.prog w = .ok (.pointer (some ⟨b, off + 3, none⟩)) w := by kernel_rfl
theorem fa_29_4 (b off : Nat) (w : World) : (Instr.fieldAt 29 (.pointer (some ⟨b, off, none⟩)) 4).run Try.prog w = .ok (.pointer (some ⟨b, off + 7, none⟩)) w := by kernel_rfl
theorem fa_31_4 (b off : Nat) (w : World) : (Instr.fieldAt 31 (.pointer (some ⟨b, off, none⟩)) 4).run Try.prog w = .ok (.pointer (some ⟨b, off + 4, none⟩)) w := by kernel_rfl
theorem fa_89_3 (b off : Nat) (w : World) : (Instr.fieldAt 89 (.pointer (some ⟨b, off, none⟩)) 3).run Try.prog w = .ok (.pointer (some ⟨b, off + 4, none⟩)) w := by kernel_rfl
theorem fa_89_2 (b off : Nat) (w : World) : (Instr.fieldAt 89 (.pointer (some ⟨b, off, none⟩)) 2).run Try.prog w = .ok (.pointer (some ⟨b, off + 2, none⟩)) w := by kernel_rfl
theorem fa_89_0 (b off : Nat) (w : World) : (Instr.fieldAt 89 (.pointer (some ⟨b, off, none⟩)) 0).run Try.prog w = .ok (.pointer (some ⟨b, off, none⟩)) w := by kernel_rfl
theorem cv_22_3 {n : Int} {w : World} : (convert 22 3 (.int .u32 n)).run Try.prog w = .ok (.int .i64 (IntKind.i64.wrap n)) w := run_conv Try.underlying22 Try.underlying3
theorem cvn_22_3 {n : Int} {w : World} (h : -9223372036854775808 ≤ n ∧ n ≤ 9223372036854775807) : (convert 22 3 (.int .u32 n)).run Try.prog w = .ok (.int .i64 n) w := by rw [cv_22_3, wrap_i64 h]
theorem zv_57 (w : World) : (zeroValue 57).run Try.prog w = .ok (.agg #[.int .u64 0, .int .u64 0]) w := by kernel_rfl
theorem bd_57_1Iu64 (x0 : Int) (w : World) : (Instr.build 57 #[(1, .int .u64 x0)]).run Try.prog w = .ok (.agg #[.int .u64 0, .int .u64 x0]) w := by kernel_rfl
theorem bd_57_  (w : World) : (Instr.build 57 #[]).run Try.prog w = .ok (.agg #[.int .u64 0, .int .u64 0]) w := by kernel_rfl
theorem sh_57 : Try.prog.stoodInHeld 57 = false := by kernel_rfl
theorem eq_57 (d : Nat) (w : World) (x0 y0 : Int) (x1 y1 : Int) : (Op.equalIn (d + 2) 57 (.agg #[.int .u64 x0, .int .u64 x1]) (.agg #[.int .u64 y0, .int .u64 y1])).run Try.prog w = .ok (x0 == y0 && (x1 == y1 && true)) w := by
  refine eqs_of Try.underlying57 sh_57 ?_
  refine eqs_cons rfl (part1 (Try.isAgg55 w) rfl) (part1 (Try.isAgg55 w) rfl) (eqs_int (d := d + 0) Try.underlying55) ?_
  refine eqs_cons rfl (part1 (Try.isAgg55 w) rfl) (part1 (Try.isAgg55 w) rfl) (eqs_int (d := d + 0) Try.underlying55) ?_
  exact eqs_nil
theorem eg_57 : Try.prog.eqGuardType Try.prog.depth 57 = false := by kernel_rfl
theorem zv_61 (w : World) : (zeroValue 61).run Try.prog w = .ok (.agg #[.int .u64 0, .int .u64 0]) w := by kernel_rfl
theorem fa_61_1 (b off : Nat) (w : World) : (Instr.fieldAt 61 (.pointer (some ⟨b, off, none⟩)) 1).run Try.prog w = .ok (.pointer (some ⟨b, off + 1, none⟩)) w := by kernel_rfl
theorem fa_61_0 (b off : Nat) (w : World) : (Instr.fieldAt 61 (.pointer (some ⟨b, off, none⟩)) 0).run Try.prog w = .ok (.pointer (some ⟨b, off, none⟩)) w := by kernel_rfl
theorem bd_61_0Iu64_1Iu64 (x0 : Int) (x1 : Int) (w : World) : (Instr.build 61 #[(0, .int .u64 x0), (1, .int .u64 x1)]).run Try.prog w = .ok (.agg #[.int .u64 x0, .int .u64 x1]) w := by kernel_rfl
theorem fa_57_1 (b off : Nat) (w : World) : (Instr.fieldAt 57 (.pointer (some ⟨b, off, none⟩)) 1).run Try.prog w = .ok (.pointer (some ⟨b, off + 1, none⟩)) w := by kernel_rfl
theorem bd_57_0Iu64 (x0 : Int) (w : World) : (Instr.build 57 #[(0, .int .u64 x0)]).run Try.prog w = .ok (.agg #[.int .u64 x0, .int .u64 0]) w := by kernel_rfl
theorem fa_57_0 (b off : Nat) (w : World) : (Instr.fieldAt 57 (.pointer (some ⟨b, off, none⟩)) 0).run Try.prog w = .ok (.pointer (some ⟨b, off, none⟩)) w := by kernel_rfl
theorem bd_57_0Iu64_1Iu64 (x0 : Int) (x1 : Int) (w : World) : (Instr.build 57 #[(0, .int .u64 x0), (1, .int .u64 x1)]).run Try.prog w = .ok (.agg #[.int .u64 x0, .int .u64 x1]) w := by kernel_rfl
theorem mixed : Try.prog.follows .mixedOrders = true := by kernel_rfl
def mask (n : Int) : Int := if n ≤ 0 then 0 else IntKind.u32.wrap (4294967295 * 2 ^ min (32 - (if 32 < n then 32 else n)).toNat IntKind.u32.bits)
set_option maxRecDepth 100000 in
set_option maxHeartbeats 4000000 in
theorem c_mask (n : Int) (hn : -4611686018427387904 ≤ n ∧ n ≤ 4611686018427387904) (w : World) : Calls Try.prog 130 #[.int .i64 n] w fun e w' => e = .returned (.int .u32 (mask n)) ∧ Ext w w' := by
  refine enter 9 Try.ntmps130 Try.func130 rfl (Nat.le_of_ble_eq_true rfl) fun a0 d0 z0 hargs => ?_
  have s0_0 : a0.eval (.tmp 0) = .int .i64 n := hargs 0 _ rfl
  have x0 := Touch.refl NoF w
  refine rgs mixed 9 [.eq (.int .u32 0)] [[]] d0 z0 (by kernel_rfl) ⟨Ov rfl rfl fun _ _ T _ => ex_assign rfl, trivial⟩ ?_
  intro a1 w1 d1 z1 t1 e1 q1
  refine wp_seq_k fun K2 hK2 => ?_
  have s3_0 := ((q1 0 rfl).trans s0_0)
  refine rgs mixed 9 [.eq (.int .i64 n), .eq (.bool (decide (n ≤ 0)))] [[(0, none)], [(3, some 0)]] d1 z1 (by kernel_rfl) ⟨Ov rfl rfl fun _ _ T ⟨k0, _⟩ => ex_move (k0.trans s3_0), Ov rfl rfl fun _ _ T ⟨k3, _⟩ => ex_leq k3 rfl, trivial⟩ ?_
  intro a4 w4 d4 z4 t4 e4 q4
  by_cases c5 : n ≤ 0
  · have y5 := decide_eq_true c5
    have s6_4 : a4.eval (.tmp 4) = .bool (decide (n ≤ 0)) := e4.2.1
    refine wp_cond_true (s6_4.trans (by rw [y5])) ?_
    refine rgs mixed 9 [.eq (.int .u32 0)] [[]] d4 z4 (by kernel_rfl) ⟨Ov rfl rfl fun _ _ T _ => ex_assign rfl, trivial⟩ ?_
    intro a7 w7 d7 z7 t7 e7 q7
    refine wp_ret ?_
    have s8_2 : a7.eval (.tmp 2) = .int .u32 0 := e7.1
    repeat (first | (with_reducible refine then_ret ?_) | (with_reducible refine block_ret ?_))
    refine retl (rs := [.tmp 2]) Try.results130 ⟨s8_2, trivial⟩ d7 ?_
    have x9 := (Touch.trans (Touch.trans (Touch.trans x0 (Ext.touch t1)) (Ext.touch t4)) (Ext.touch t7))
    exact ⟨by unfold mask; rw [if_pos c5], x9.ext⟩
  · have y5 := decide_eq_false c5
    have s10_4 : a4.eval (.tmp 4) = .bool (decide (n ≤ 0)) := e4.2.1
    refine wp_cond_false (s10_4.trans (by rw [y5])) ?_
    refine wp_skip ?_
    repeat (with_reducible refine block_norm ?_)
    refine hK2 _ _ ?_
    have s11_0 := ((q4 0 rfl).trans s3_0)
    refine rgs mixed 9 [.eq (.int .i64 n), .eq (.int .i64 (if 32 < n then 32 else n)), .eq (.int .i64 (32 - (if 32 < n then 32 else n))), .eq (.int .u32 (IntKind.u32.wrap (4294967295 * 2 ^ min (32 - (if 32 < n then 32 else n)).toNat IntKind.u32.bits))), .eq (.int .u32 (IntKind.u32.wrap (4294967295 * 2 ^ min (32 - (if 32 < n then 32 else n)).toNat IntKind.u32.bits)))] [[(0, none)], [(5, some 0)], [(6, some 1)], [(7, some 2)], [(8, some 3)]] d4 z4 (by kernel_rfl) ⟨Ov rfl rfl fun _ _ T ⟨k0, _⟩ => ex_move (k0.trans s11_0),
      Ov rfl rfl fun _ _ T ⟨k5, _⟩ => ex_min (cons_ops k5 (cons_ops rfl nil_ops)),
      Ov rfl rfl fun _ _ T ⟨k6, _⟩ => ex_sub64 rfl k6 (by omega),
      Ov rfl rfl fun _ _ T ⟨k7, _⟩ => ex_shl rfl k7 (by omega),
      Ov rfl rfl fun _ _ T ⟨k8, _⟩ => ex_assign k8,
      trivial⟩ ?_
    intro a12 w12 d12 z12 t12 e12 q12
    refine wp_ret ?_
    have s13_2 : a12.eval (.tmp 2) = .int .u32 (IntKind.u32.wrap (4294967295 * 2 ^ min (32 - (if 32 < n then 32 else n)).toNat IntKind.u32.bits)) := e12.2.2.2.2.1
    repeat (first | (with_reducible refine then_ret ?_) | (with_reducible refine block_ret ?_))
    refine retl (rs := [.tmp 2]) Try.results130 ⟨s13_2, trivial⟩ d12 ?_
    have x14 := (Touch.trans (Touch.trans (Touch.trans x0 (Ext.touch t1)) (Ext.touch t4)) (Ext.touch t12))
    exact ⟨by unfold mask; rw [if_neg c5], x14.ext⟩

def right (pa : Int) (pb : Int) : Bool := ((decide (0 ≤ pb)) && (decide (pb ≤ 32))) && (decide ((ibits .andNot .u32 pa (mask pb)) = 0))
set_option maxRecDepth 100000 in
set_option maxHeartbeats 4000000 in
theorem c_right (pa : Int) (pb : Int) (hpb : -4611686018427387904 ≤ pb ∧ pb ≤ 4611686018427387904) (w : World) : Calls Try.prog 100 #[.agg #[.int .u32 pa, .int .i64 pb]] w fun e w' => e = .returned (.bool (right pa pb)) ∧ Ext w w' := by
  refine enter 20 Try.ntmps100 Try.func100 rfl (Nat.le_of_ble_eq_true rfl) fun a0 d0 z0 hargs => ?_
  have s0_0 : a0.eval (.tmp 0) = .agg #[.int .u32 pa, .int .i64 pb] := hargs 0 _ rfl
  have x0 := Touch.refl NoF w
  refine wp_seq ?_
  refine seq_begin ?_
  refine sbox z0 rfl s0_0 ?_; intro b1 w1 a1 t1 g1 hb1 u1 z1
  have yb1_2 := Nat.le_trans (Touch.size x0) g1
  refine sp z1 rfl rfl (ex_assign rfl) ?_; intro a3 u3 z3
  have d4 := (u3.defs.trans (u1.defs.trans d0))
  refine seq_end ?_
  refine then_norm ?_
  have s5_1 : a1.eval (.tmp 1) = .pointer (some ⟨b1, 0, none⟩) := (u1.here _ rfl)
  have s6_1 := ((u3.past 1 rfl).trans s5_1)
  refine rgs mixed 20 [.eq (.pointer (some ⟨b1, 1, none⟩)), .eq (.int .i64 pb), .eq (.bool (decide (0 ≤ pb))), .eq (.bool (decide (0 ≤ pb))), .eq (if (decide (0 ≤ pb)) = true then .pointer (some ⟨b1, 1, none⟩) else undef), .eq (if (decide (0 ≤ pb)) = true then .int .i64 pb else undef), .eq (if (decide (0 ≤ pb)) = true then .bool (decide (pb ≤ 32)) else undef), .eq (.bool ((decide (0 ≤ pb)) && (decide (pb ≤ 32)))), .eq (.bool ((decide (0 ≤ pb)) && (decide (pb ≤ 32)))), .eq (if ((decide (0 ≤ pb)) && (decide (pb ≤ 32))) = true then .pointer (some ⟨b1, 0, none⟩) else undef), .eq (if ((decide (0 ≤ pb)) && (decide (pb ≤ 32))) = true then .int .u32 pa else undef), .eq (if ((decide (0 ≤ pb)) && (decide (pb ≤ 32))) = true then .pointer (some ⟨b1, 1, none⟩) else undef), .eq (if ((decide (0 ≤ pb)) && (decide (pb ≤ 32))) = true then .int .i64 pb else undef), .eq (if ((decide (0 ≤ pb)) && (decide (pb ≤ 32))) = true then .int .u32 (mask pb) else undef), .eq (if ((decide (0 ≤ pb)) && (decide (pb ≤ 32))) = true then .int .u32 (ibits .andNot .u32 pa (mask pb)) else undef), .eq (if ((decide (0 ≤ pb)) && (decide (pb ≤ 32))) = true then .bool (decide ((ibits .andNot .u32 pa (mask pb)) = 0)) else undef), .eq (.bool (((decide (0 ≤ pb)) && (decide (pb ≤ 32))) && (decide ((ibits .andNot .u32 pa (mask pb)) = 0)))), .eq (.bool (((decide (0 ≤ pb)) && (decide (pb ≤ 32))) && (decide ((ibits .andNot .u32 pa (mask pb)) = 0))))] [[(1, none)], [(3, some 0)], [(4, some 1)], [(5, some 2)], [(1, none), (6, some 3)], [(7, some 4), (6, some 3)], [(8, some 5), (6, some 3)], [(6, some 3), (9, some 6)], [(10, some 7)], [(1, none), (11, some 8)], [(12, some 9), (11, some 8)], [(1, none), (11, some 8)], [(14, some 11), (11, some 8)], [(15, some 12), (11, some 8)], [(13, some 10), (16, some 13), (11, some 8)], [(17, some 14), (11, some 8)], [(11, some 8), (18, some 15)], [(19, some 16)]] d4 z3 (by kernel_rfl) ⟨Ov rfl rfl fun _ _ T ⟨k1, _⟩ => ex_fieldAddr (k1.trans s6_1) (fa_24_1 _ _ _),
    Ov rfl rfl fun _ _ T ⟨k3, _⟩ => ex_load k3 (Try.isAgg3 _) (cell_of (Ext.keep T.ext hb1) rfl),
    Ov rfl rfl fun _ _ T ⟨k4, _⟩ => ex_geq k4 rfl,
    Ov rfl rfl fun _ _ T ⟨k5, _⟩ => ex_move k5,
    Og rfl rfl rfl fun _ _ T ⟨k1, k6, _⟩ => ⟨k6, fun hcQ => ex_fieldAddr (k1.trans s6_1) (fa_24_1 _ _ _)⟩,
    Og rfl rfl rfl fun _ _ T ⟨k7, k6, _⟩ => ⟨k6, fun hcQ => ex_load (k7.trans (if_pos hcQ)) (Try.isAgg3 _) (cell_of (Ext.keep T.ext hb1) rfl)⟩,
    Og rfl rfl rfl fun _ _ T ⟨k8, k6, _⟩ => ⟨k6, fun hcQ => ex_leq (k8.trans (if_pos hcQ)) rfl⟩,
    Ov rfl rfl fun _ _ T ⟨k6, k9, _⟩ => ex_pick_and k6 k9 rfl,
    Ov rfl rfl fun _ _ T ⟨k10, _⟩ => ex_move k10,
    Og rfl rfl rfl fun _ _ T ⟨k1, k11, _⟩ => ⟨k11, fun hcQ => ex_fieldAddr (k1.trans s6_1) (fa_24_0 _ _ _)⟩,
    Og rfl rfl rfl fun _ _ T ⟨k12, k11, _⟩ => ⟨k11, fun hcQ => ex_load (k12.trans (if_pos hcQ)) (Try.isAgg22 _) (cell_of (Ext.keep T.ext hb1) rfl)⟩,
    Og rfl rfl rfl fun _ _ T ⟨k1, k11, _⟩ => ⟨k11, fun hcQ => ex_fieldAddr (k1.trans s6_1) (fa_24_1 _ _ _)⟩,
    Og rfl rfl rfl fun _ _ T ⟨k14, k11, _⟩ => ⟨k11, fun hcQ => ex_load (k14.trans (if_pos hcQ)) (Try.isAgg3 _) (cell_of (Ext.keep T.ext hb1) rfl)⟩,
    Ogc rfl rfl (fun _ _ T ⟨k15, k11, _⟩ => ⟨k11, fun hcQ => by have hdQ := hcQ; (try simp only [Bool.and_eq_true, Bool.or_eq_false_iff, Bool.not_eq_true', Bool.not_eq_false', beq_iff_eq, decide_eq_true_eq, decide_eq_false_iff_not] at hdQ); exact ⟨exl_call Try.func130 rfl rfl (cons_ops (k15.trans (if_pos hcQ)) nil_ops), c_mask pb (by omega) _⟩⟩) rfl,
    Og rfl rfl rfl fun _ _ T ⟨k13, k16, k11, _⟩ => ⟨k11, fun hcQ => ex_andNot (k13.trans (if_pos hcQ)) (k16.trans (if_pos hcQ))⟩,
    Og rfl rfl rfl fun _ _ T ⟨k17, k11, _⟩ => ⟨k11, fun hcQ => ex_eql (k17.trans (if_pos hcQ)) rfl⟩,
    Ov rfl rfl fun _ _ T ⟨k11, k18, _⟩ => ex_pick_and k11 k18 rfl,
    Ov rfl rfl fun _ _ T ⟨k19, _⟩ => ex_assign k19,
    trivial⟩ ?_
  intro a7 w7 d7 z7 t7 e7 q7
  refine wp_ret ?_
  have s8_2 : a7.eval (.tmp 2) = .bool (((decide (0 ≤ pb)) && (decide (pb ≤ 32))) && (decide ((ibits .andNot .u32 pa (mask pb)) = 0))) := e7.2.2.2.2.2.2.2.2.2.2.2.2.2.2.2.2.2.1
  repeat (first | (with_reducible refine then_ret ?_) | (with_reducible refine block_ret ?_))
  refine retl (rs := [.tmp 2]) Try.results100 ⟨s8_2, trivial⟩ d7 ?_
  have x9 := (Touch.trans (Touch.trans x0 (Ext.touch t1)) (Ext.touch t7))
  exact ⟨by unfold right; rfl, x9.ext⟩

def has (pa : Int) (pb : Int) (x : Int) : Bool := decide ((ibits .and .u32 (ibits .xor .u32 x pa) (mask pb)) = 0)
set_option maxRecDepth 100000 in
set_option maxHeartbeats 4000000 in
theorem c_has (pa : Int) (pb : Int) (x : Int) (hpb : -4611686018427387904 ≤ pb ∧ pb ≤ 4611686018427387904) (w : World) : Calls Try.prog 159 #[.agg #[.int .u32 pa, .int .i64 pb], .int .u32 x] w fun e w' => e = .returned (.bool (has pa pb x)) ∧ Ext w w' := by
  refine enter 14 Try.ntmps159 Try.func159 rfl (Nat.le_of_ble_eq_true rfl) fun a0 d0 z0 hargs => ?_
  have s0_0 : a0.eval (.tmp 0) = .agg #[.int .u32 pa, .int .i64 pb] := hargs 0 _ rfl
  have s0_1 : a0.eval (.tmp 1) = .int .u32 x := hargs 1 _ rfl
  have x0 := Touch.refl NoF w
  refine wp_seq ?_
  refine seq_begin ?_
  refine sbox z0 rfl s0_0 ?_; intro b1 w1 a1 t1 g1 hb1 u1 z1
  have yb1_2 := Nat.le_trans (Touch.size x0) g1
  refine sp z1 rfl rfl (ex_assign rfl) ?_; intro a3 u3 z3
  have d4 := (u3.defs.trans (u1.defs.trans d0))
  refine seq_end ?_
  refine then_norm ?_
  have s5_1 := ((u3.past 1 rfl).trans ((u1.past 1 rfl).trans s0_1))
  have s6_2 : a1.eval (.tmp 2) = .pointer (some ⟨b1, 0, none⟩) := (u1.here _ rfl)
  have s7_2 := ((u3.past 2 rfl).trans s6_2)
  refine rgs mixed 14 [.eq (.int .u32 x), .eq (.pointer (some ⟨b1, 0, none⟩)), .eq (.int .u32 pa), .eq (.int .u32 (ibits .xor .u32 x pa)), .eq (.pointer (some ⟨b1, 1, none⟩)), .eq (.int .i64 pb), .eq (.int .u32 (mask pb)), .eq (.int .u32 (ibits .and .u32 (ibits .xor .u32 x pa) (mask pb))), .eq (.bool (decide ((ibits .and .u32 (ibits .xor .u32 x pa) (mask pb)) = 0))), .eq (.bool (decide ((ibits .and .u32 (ibits .xor .u32 x pa) (mask pb)) = 0)))] [[(1, none)], [(2, none)], [(6, some 1)], [(5, some 0), (7, some 2)], [(2, none)], [(9, some 4)], [(10, some 5)], [(8, some 3), (11, some 6)], [(12, some 7)], [(13, some 8)]] d4 z3 (by kernel_rfl) ⟨Ov rfl rfl fun _ _ T ⟨k1, _⟩ => ex_move (k1.trans s5_1),
    Ov rfl rfl fun _ _ T ⟨k2, _⟩ => ex_fieldAddr (k2.trans s7_2) (fa_24_0 _ _ _),
    Ov rfl rfl fun _ _ T ⟨k6, _⟩ => ex_load k6 (Try.isAgg22 _) (cell_of (Ext.keep T.ext hb1) rfl),
    Ov rfl rfl fun _ _ T ⟨k5, k7, _⟩ => ex_xor k5 k7,
    Ov rfl rfl fun _ _ T ⟨k2, _⟩ => ex_fieldAddr (k2.trans s7_2) (fa_24_1 _ _ _),
    Ov rfl rfl fun _ _ T ⟨k9, _⟩ => ex_load k9 (Try.isAgg3 _) (cell_of (Ext.keep T.ext hb1) rfl),
    Oc rfl (fun _ _ T ⟨k10, _⟩ => ⟨exl_call Try.func130 rfl rfl (cons_ops k10 nil_ops), c_mask pb (by omega) _⟩) rfl,
    Ov rfl rfl fun _ _ T ⟨k8, k11, _⟩ => ex_and k8 k11,
    Ov rfl rfl fun _ _ T ⟨k12, _⟩ => ex_eql k12 rfl,
    Ov rfl rfl fun _ _ T ⟨k13, _⟩ => ex_assign k13,
    trivial⟩ ?_
  intro a8 w8 d8 z8 t8 e8 q8
  refine wp_ret ?_
  have s9_4 : a8.eval (.tmp 4) = .bool (decide ((ibits .and .u32 (ibits .xor .u32 x pa) (mask pb)) = 0)) := e8.2.2.2.2.2.2.2.2.2.1
  repeat (first | (with_reducible refine then_ret ?_) | (with_reducible refine block_ret ?_))
  refine retl (rs := [.tmp 4]) Try.results159 ⟨s9_4, trivial⟩ d8 ?_
  have x10 := (Touch.trans (Touch.trans x0 (Ext.touch t1)) (Ext.touch t8))
  exact ⟨by unfold has; rfl, x10.ext⟩

def pof (x : Int) (n : Int) : Int × Int := (ibits .and .u32 x (mask (if (if 32 < n then 32 else n) > 0 then if 32 < n then 32 else n else 0)), if (if 32 < n then 32 else n) > 0 then if 32 < n then 32 else n else 0)
set_option maxRecDepth 100000 in
set_option maxHeartbeats 4000000 in
theorem c_pof (x : Int) (n : Int) (hn : -4611686018427387904 ≤ n ∧ n ≤ 4611686018427387904) (w : World) : Calls Try.prog 141 #[.int .u32 x, .int .i64 n] w fun e w' => e = .returned (.agg #[.int .u32 (pof x n).1, .int .i64 (pof x n).2]) ∧ Ext w w' := by
  refine enter 14 Try.ntmps141 Try.func141 rfl (Nat.le_of_ble_eq_true rfl) fun a0 d0 z0 hargs => ?_
  have s0_0 : a0.eval (.tmp 0) = .int .u32 x := hargs 0 _ rfl
  have s0_1 : a0.eval (.tmp 1) = .int .i64 n := hargs 1 _ rfl
  have x0 := Touch.refl NoF w
  refine wp_seq ?_
  refine seq_begin ?_
  refine salloc z0 rfl (zv_24 _) ?_; intro b1 w1 a1 t1 g1 hb1 u1 z1
  have yb1_2 := Nat.le_trans (Touch.size x0) g1
  have d3 := (u1.defs.trans d0)
  refine seq_end ?_
  refine then_norm ?_
  have s4_1 := ((u1.past 1 rfl).trans s0_1)
  refine rgs mixed 14 [.eq (.int .i64 n), .eq (.int .i64 (if 32 < n then 32 else n)), .eq (.int .i64 (if (if 32 < n then 32 else n) > 0 then if 32 < n then 32 else n else 0)), .eq (.int .i64 (if (if 32 < n then 32 else n) > 0 then if 32 < n then 32 else n else 0))] [[(1, none)], [(5, some 0)], [(6, some 1)], [(7, some 2)]] d3 z1 (by kernel_rfl) ⟨Ov rfl rfl fun _ _ T ⟨k1, _⟩ => ex_move (k1.trans s4_1),
    Ov rfl rfl fun _ _ T ⟨k5, _⟩ => ex_min (cons_ops k5 (cons_ops rfl nil_ops)),
    Ov rfl rfl fun _ _ T ⟨k6, _⟩ => ex_max (cons_ops rfl (cons_ops k6 nil_ops)),
    Ov rfl rfl fun _ _ T ⟨k7, _⟩ => ex_assign k7,
    trivial⟩ ?_
  intro a5 w5 d5 z5 t5 e5 q5
  refine wp_seq ?_
  refine seq_begin ?_
  refine sp z5 rfl rfl (ex_move ((q5 0 rfl).trans ((u1.past 0 rfl).trans s0_0))) ?_; intro a6 u6 z6
  refine sp z6 rfl rfl (ex_move ((u6.past 1 rfl).trans e5.2.2.2.1)) ?_; intro a7 u7 z7
  refine scx z7 rfl rfl (exl_call Try.func130 rfl rfl (cons_ops (u7.here _ rfl) nil_ops)) (c_mask (if (if 32 < n then 32 else n) > 0 then if 32 < n then 32 else n else 0) (by omega) _) ?_; intro w8 a8 t8 u8 z8
  refine sp z8 rfl rfl (ex_and ((u8.past 8 rfl).trans ((u7.past 8 rfl).trans (u6.here _ rfl))) (u8.here _ rfl)) ?_; intro a9 u9 z9
  refine sp z9 rfl rfl (ex_move ((u9.past 1 rfl).trans ((u8.past 1 rfl).trans ((u7.past 1 rfl).trans ((u6.past 1 rfl).trans e5.2.2.2.1))))) ?_; intro a10 u10 z10
  refine sp z10 rfl rfl (exl_build (cons_parts ((u10.past 11 rfl).trans (u9.here _ rfl)) (cons_parts (u10.here _ rfl) nil_parts)) (bd_24_0Iu32_1Ii64 (ibits .and .u32 x (mask (if (if 32 < n then 32 else n) > 0 then if 32 < n then 32 else n else 0))) (if (if 32 < n then 32 else n) > 0 then if 32 < n then 32 else n else 0) _)) ?_; intro a11 u11 z11
  have hb1_13 := (Ext.keep t8 (Ext.keep t5 hb1))
  refine sstore (cs := [.int .u32 0, .int .i64 0]) (vs := [.int .u32 (ibits .and .u32 x (mask (if (if 32 < n then 32 else n) > 0 then if 32 < n then 32 else n else 0))), .int .i64 (if (if 32 < n then 32 else n) > 0 then if 32 < n then 32 else n else 0)]) (cs' := [.int .u32 (ibits .and .u32 x (mask (if (if 32 < n then 32 else n) > 0 then if 32 < n then 32 else n else 0))), .int .i64 (if (if 32 < n then 32 else n) > 0 then if 32 < n then 32 else n else 0)]) z11 rfl ((u11.past 4 rfl).trans ((u10.past 4 rfl).trans ((u9.past 4 rfl).trans ((u8.past 4 rfl).trans ((u7.past 4 rfl).trans ((u6.past 4 rfl).trans ((q5 4 rfl).trans (u1.here _ rfl)))))))) (u11.here _ rfl) hb1_13 (Try.sizeOf24 _) rfl rfl (by decide) (Nat.le_of_ble_eq_true rfl) rfl rfl ?_; intro w12 a12 t12 u12 z12
  have d14 := (u12.defs.trans (u11.defs.trans (u10.defs.trans (u9.defs.trans (u8.defs.trans (u7.defs.trans (u6.defs.trans d5)))))))
  refine seq_end ?_
  refine then_norm ?_
  refine wp_ret ?_
  have s15_4 : a1.eval (.tmp 4) = .pointer (some ⟨b1, 0, none⟩) := (u1.here _ rfl)
  have s16_4 := ((u12.past 4 rfl).trans ((u11.past 4 rfl).trans ((u10.past 4 rfl).trans ((u9.past 4 rfl).trans ((u8.past 4 rfl).trans ((u7.past 4 rfl).trans ((u6.past 4 rfl).trans ((q5 4 rfl).trans s15_4))))))))
  repeat (first | (with_reducible refine then_ret ?_) | (with_reducible refine block_ret ?_))
  refine retl (rs := [.cell 4 24]) Try.results141 ⟨⟨_, s16_4, run_loadVarA (cs := [.int .u32 (ibits .and .u32 x (mask (if (if 32 < n then 32 else n) > 0 then if 32 < n then 32 else n else 0))), .int .i64 (if (if 32 < n then 32 else n) > 0 then if 32 < n then 32 else n else 0)]) (Try.isAgg24 _) (Try.sizeOf24 _) (cells_of (off := 0) t12.here rfl)⟩, trivial⟩ d14 ?_
  have x17 := (Touch.turn (Touch.trans (Touch.trans (Touch.trans x0 (Ext.touch t1)) (Ext.touch t5)) (Ext.touch t8)) t12 (Or.inr yb1_2))
  exact ⟨by unfold pof; rfl, x17.ext⟩

def rin (rl : Int) (rh : Int) (p : Int) : Bool := (decide (rl ≤ p)) && (decide (p ≤ rh))
set_option maxRecDepth 100000 in
set_option maxHeartbeats 4000000 in
theorem c_rin (rl : Int) (rh : Int) (p : Int) (w : World) : Calls Try.prog 160 #[.agg #[.int .u16 rl, .int .u16 rh], .int .u16 p] w fun e w' => e = .returned (.bool (rin rl rh p)) ∧ Ext w w' := by
  refine enter 15 Try.ntmps160 Try.func160 rfl (Nat.le_of_ble_eq_true rfl) fun a0 d0 z0 hargs => ?_
  have s0_0 : a0.eval (.tmp 0) = .agg #[.int .u16 rl, .int .u16 rh] := hargs 0 _ rfl
  have s0_1 : a0.eval (.tmp 1) = .int .u16 p := hargs 1 _ rfl
  have x0 := Touch.refl NoF w
  refine wp_seq ?_
  refine seq_begin ?_
  refine sbox z0 rfl s0_0 ?_; intro b1 w1 a1 t1 g1 hb1 u1 z1
  have yb1_2 := Nat.le_trans (Touch.size x0) g1
  refine sp z1 rfl rfl (ex_assign rfl) ?_; intro a3 u3 z3
  have d4 := (u3.defs.trans (u1.defs.trans d0))
  refine seq_end ?_
  refine then_norm ?_
  have s5_1 := ((u3.past 1 rfl).trans ((u1.past 1 rfl).trans s0_1))
  have s6_2 : a1.eval (.tmp 2) = .pointer (some ⟨b1, 0, none⟩) := (u1.here _ rfl)
  have s7_2 := ((u3.past 2 rfl).trans s6_2)
  refine rgs mixed 15 [.eq (.int .u16 p), .eq (.pointer (some ⟨b1, 0, none⟩)), .eq (.int .u16 rl), .eq (.bool (decide (rl ≤ p))), .eq (.bool (decide (rl ≤ p))), .eq (if (decide (rl ≤ p)) = true then .int .u16 p else undef), .eq (if (decide (rl ≤ p)) = true then .pointer (some ⟨b1, 1, none⟩) else undef), .eq (if (decide (rl ≤ p)) = true then .int .u16 rh else undef), .eq (if (decide (rl ≤ p)) = true then .bool (decide (p ≤ rh)) else undef), .eq (.bool ((decide (rl ≤ p)) && (decide (p ≤ rh)))), .eq (.bool ((decide (rl ≤ p)) && (decide (p ≤ rh))))] [[(1, none)], [(2, none)], [(6, some 1)], [(5, some 0), (7, some 2)], [(8, some 3)], [(1, none), (9, some 4)], [(2, none), (9, some 4)], [(11, some 6), (9, some 4)], [(10, some 5), (12, some 7), (9, some 4)], [(9, some 4), (13, some 8)], [(14, some 9)]] d4 z3 (by kernel_rfl) ⟨Ov rfl rfl fun _ _ T ⟨k1, _⟩ => ex_move (k1.trans s5_1),
    Ov rfl rfl fun _ _ T ⟨k2, _⟩ => ex_fieldAddr (k2.trans s7_2) (fa_27_0 _ _ _),
    Ov rfl rfl fun _ _ T ⟨k6, _⟩ => ex_load k6 (Try.isAgg25 _) (cell_of (Ext.keep T.ext hb1) rfl),
    Ov rfl rfl fun _ _ T ⟨k5, k7, _⟩ => ex_geq k5 k7,
    Ov rfl rfl fun _ _ T ⟨k8, _⟩ => ex_move k8,
    Og rfl rfl rfl fun _ _ T ⟨k1, k9, _⟩ => ⟨k9, fun hcQ => ex_move (k1.trans s5_1)⟩,
    Og rfl rfl rfl fun _ _ T ⟨k2, k9, _⟩ => ⟨k9, fun hcQ => ex_fieldAddr (k2.trans s7_2) (fa_27_1 _ _ _)⟩,
    Og rfl rfl rfl fun _ _ T ⟨k11, k9, _⟩ => ⟨k9, fun hcQ => ex_load (k11.trans (if_pos hcQ)) (Try.isAgg25 _) (cell_of (Ext.keep T.ext hb1) rfl)⟩,
    Og rfl rfl rfl fun _ _ T ⟨k10, k12, k9, _⟩ => ⟨k9, fun hcQ => ex_leq (k10.trans (if_pos hcQ)) (k12.trans (if_pos hcQ))⟩,
    Ov rfl rfl fun _ _ T ⟨k9, k13, _⟩ => ex_pick_and k9 k13 rfl,
    Ov rfl rfl fun _ _ T ⟨k14, _⟩ => ex_assign k14,
    trivial⟩ ?_
  intro a8 w8 d8 z8 t8 e8 q8
  refine wp_ret ?_
  have s9_4 : a8.eval (.tmp 4) = .bool ((decide (rl ≤ p)) && (decide (p ≤ rh))) := e8.2.2.2.2.2.2.2.2.2.2.1
  repeat (first | (with_reducible refine then_ret ?_) | (with_reducible refine block_ret ?_))
  refine retl (rs := [.tmp 4]) Try.results160 ⟨s9_4, trivial⟩ d8 ?_
  have x10 := (Touch.trans (Touch.trans x0 (Ext.touch t1)) (Ext.touch t8))
  exact ⟨by unfold rin; rfl, x10.ext⟩

def fmatch (fda : Int) (fdb : Int) (fsa : Int) (fsb : Int) (fp : Int) (fsl : Int) (fsh : Int) (fdl : Int) (fdh : Int) (hd : Int) (hs : Int) (hp : Int) (hsp : Int) (hdp : Int) : Bool := ((((has fda fdb hd) && (has fsa fsb hs)) && ((decide (fp = (-1))) || (decide (fp = hp)))) && (rin fsl fsh hsp)) && (rin fdl fdh hdp)
set_option maxRecDepth 100000 in
set_option maxHeartbeats 4000000 in
theorem c_fmatch (fda : Int) (fdb : Int) (fsa : Int) (fsb : Int) (fp : Int) (fsl : Int) (fsh : Int) (fdl : Int) (fdh : Int) (hd : Int) (hs : Int) (hp : Int) (hsp : Int) (hdp : Int) (hfdb : -4611686018427387904 ≤ fdb ∧ fdb ≤ 4611686018427387904)(hfsb : -4611686018427387904 ≤ fsb ∧ fsb ≤ 4611686018427387904)(hhp : 0 ≤ hp ∧ hp ≤ 255) (w : World) : Calls Try.prog 142 #[.agg #[.int .u32 fda, .int .i64 fdb, .int .u32 fsa, .int .i64 fsb, .int .i64 fp, .int .u16 fsl, .int .u16 fsh, .int .u16 fdl, .int .u16 fdh], .agg #[.int .u32 hd, .int .u32 hs, .int .u8 hp, .int .u16 hsp, .int .u16 hdp]] w fun e w' => e = .returned (.bool (fmatch fda fdb fsa fsb fp fsl fsh fdl fdh hd hs hp hsp hdp)) ∧ Ext w w' := by
  refine enter 44 Try.ntmps142 Try.func142 rfl (Nat.le_of_ble_eq_true rfl) fun a0 d0 z0 hargs => ?_
  have s0_0 : a0.eval (.tmp 0) = .agg #[.int .u32 fda, .int .i64 fdb, .int .u32 fsa, .int .i64 fsb, .int .i64 fp, .int .u16 fsl, .int .u16 fsh, .int .u16 fdl, .int .u16 fdh] := hargs 0 _ rfl
  have s0_1 : a0.eval (.tmp 1) = .agg #[.int .u32 hd, .int .u32 hs, .int .u8 hp, .int .u16 hsp, .int .u16 hdp] := hargs 1 _ rfl
  have x0 := Touch.refl NoF w
  refine wp_seq ?_
  refine seq_begin ?_
  refine sbox z0 rfl s0_0 ?_; intro b1 w1 a1 t1 g1 hb1 u1 z1
  have yb1_2 := Nat.le_trans (Touch.size x0) g1
  refine sbox z1 rfl ((u1.past 1 rfl).trans s0_1) ?_; intro b3 w3 a3 t3 g3 hb3 u3 z3
  have n4_b1_b3 := ne_lt (lt_of hb1) g3
  have x6 := (Touch.trans x0 (Ext.touch t1))
  have yb3_5 := Nat.le_trans (Touch.size x6) g3
  refine sp z3 rfl rfl (ex_assign rfl) ?_; intro a7 u7 z7
  have d8 := (u7.defs.trans (u3.defs.trans (u1.defs.trans d0)))
  refine seq_end ?_
  refine then_norm ?_
  refine wp_seq ?_
  refine seq_begin ?_
  refine sp z7 rfl rfl (ex_fieldAddr ((u7.past 2 rfl).trans ((u3.past 2 rfl).trans (u1.here _ rfl))) (fa_29_0 _ _ _)) ?_; intro a9 u9 z9
  have hb1_11 := (Ext.keep t3 hb1)
  refine sp z9 rfl rfl (ex_loadAgg (cs := [.int .u32 fda, .int .i64 fdb]) (u9.here _ rfl) (Try.isAgg24 _) (Try.sizeOf24 _) (cells_of (off := 0) hb1_11 rfl)) ?_; intro a10 u10 z10
  refine sp z10 rfl rfl (ex_fieldAddr ((u10.past 3 rfl).trans ((u9.past 3 rfl).trans ((u7.past 3 rfl).trans (u3.here _ rfl)))) (fa_31_0 _ _ _)) ?_; intro a12 u12 z12
  refine sp z12 rfl rfl (ex_load (u12.here _ rfl) (Try.isAgg22 _) (cell_of hb3 rfl)) ?_; intro a13 u13 z13
  refine scx z13 rfl rfl (exl_call Try.func159 rfl rfl (cons_ops ((u13.past 6 rfl).trans ((u12.past 6 rfl).trans (u10.here _ rfl))) (cons_ops (u13.here _ rfl) nil_ops))) (c_has fda fdb hd (by omega) _) ?_; intro w14 a14 t14 u14 z14
  refine sp z14 rfl rfl (ex_move (u14.here _ rfl)) ?_; intro a15 u15 z15
  refine sg z15 rfl rfl rfl (u15.here _ rfl) (fun hcQ => ex_fieldAddr ((u15.past 2 rfl).trans ((u14.past 2 rfl).trans ((u13.past 2 rfl).trans ((u12.past 2 rfl).trans ((u10.past 2 rfl).trans ((u9.past 2 rfl).trans ((u7.past 2 rfl).trans ((u3.past 2 rfl).trans (u1.here _ rfl))))))))) (fa_29_1 _ _ _)) ?_; intro a16 u16 z16
  have hb1_18 := (Ext.keep t14 hb1_11)
  refine sg z16 rfl rfl rfl ((u16.past 10 rfl).trans (u15.here _ rfl)) (fun hcQ => ex_loadAgg (cs := [.int .u32 fsa, .int .i64 fsb]) ((u16.here _ rfl).trans (if_pos hcQ)) (Try.isAgg24 _) (Try.sizeOf24 _) (cells_of (off := 2) hb1_18 rfl)) ?_; intro a17 u17 z17
  refine sg z17 rfl rfl rfl ((u17.past 10 rfl).trans ((u16.past 10 rfl).trans (u15.here _ rfl))) (fun hcQ => ex_fieldAddr ((u17.past 3 rfl).trans ((u16.past 3 rfl).trans ((u15.past 3 rfl).trans ((u14.past 3 rfl).trans ((u13.past 3 rfl).trans ((u12.past 3 rfl).trans ((u10.past 3 rfl).trans ((u9.past 3 rfl).trans ((u7.past 3 rfl).trans (u3.here _ rfl)))))))))) (fa_31_1 _ _ _)) ?_; intro a19 u19 z19
  have hb3_21 := (Ext.keep t14 hb3)
  refine sg z19 rfl rfl rfl ((u19.past 10 rfl).trans ((u17.past 10 rfl).trans ((u16.past 10 rfl).trans (u15.here _ rfl)))) (fun hcQ => ex_load ((u19.here _ rfl).trans (if_pos hcQ)) (Try.isAgg22 _) (cell_of hb3_21 rfl)) ?_; intro a20 u20 z20
  refine scg z20 rfl rfl rfl ((u20.past 10 rfl).trans ((u19.past 10 rfl).trans ((u17.past 10 rfl).trans ((u16.past 10 rfl).trans (u15.here _ rfl))))) (fun hcQ => exl_call Try.func159 rfl rfl (cons_ops (((u20.past 12 rfl).trans ((u19.past 12 rfl).trans (u17.here _ rfl))).trans (if_pos hcQ)) (cons_ops ((u20.here _ rfl).trans (if_pos hcQ)) nil_ops))) (fun hcQ => by (try simp only [Bool.and_eq_true, Bool.or_eq_false_iff, Bool.not_eq_true', Bool.not_eq_false', beq_iff_eq, decide_eq_true_eq, decide_eq_false_iff_not] at hcQ); exact c_has fsa fsb hs (by omega) _) ?_; intro w22 a22 t22 u22 z22
  refine sp z22 rfl rfl (ex_pick_and ((u22.past 10 rfl).trans ((u20.past 10 rfl).trans ((u19.past 10 rfl).trans ((u17.past 10 rfl).trans ((u16.past 10 rfl).trans (u15.here _ rfl)))))) (u22.here _ rfl) rfl) ?_; intro a23 u23 z23
  refine sp z23 rfl rfl (ex_move (u23.here _ rfl)) ?_; intro a24 u24 z24
  refine sg z24 rfl rfl rfl (u24.here _ rfl) (fun hcQ => ex_fieldAddr ((u24.past 2 rfl).trans ((u23.past 2 rfl).trans ((u22.past 2 rfl).trans ((u20.past 2 rfl).trans ((u19.past 2 rfl).trans ((u17.past 2 rfl).trans ((u16.past 2 rfl).trans ((u15.past 2 rfl).trans ((u14.past 2 rfl).trans ((u13.past 2 rfl).trans ((u12.past 2 rfl).trans ((u10.past 2 rfl).trans ((u9.past 2 rfl).trans ((u7.past 2 rfl).trans ((u3.past 2 rfl).trans (u1.here _ rfl)))))))))))))))) (fa_29_2 _ _ _)) ?_; intro a25 u25 z25
  have hb1_27 := (Ext.keep t22 hb1_18)
  refine sg z25 rfl rfl rfl ((u25.past 17 rfl).trans (u24.here _ rfl)) (fun hcQ => ex_load ((u25.here _ rfl).trans (if_pos hcQ)) (Try.isAgg3 _) (cell_of hb1_27 rfl)) ?_; intro a26 u26 z26
  refine sg z26 rfl rfl rfl ((u26.past 17 rfl).trans ((u25.past 17 rfl).trans (u24.here _ rfl))) (fun hcQ => ex_eql ((u26.here _ rfl).trans (if_pos hcQ)) rfl) ?_; intro a28 u28 z28
  refine sg z28 rfl rfl rfl ((u28.past 17 rfl).trans ((u26.past 17 rfl).trans ((u25.past 17 rfl).trans (u24.here _ rfl)))) (fun hcQ => ex_move ((u28.here _ rfl).trans (if_pos hcQ))) ?_; intro a29 u29 z29
  refine sg2 z29 rfl rfl rfl (u29.here _ rfl) (fun hcQ => ex_fieldAddr ((u29.past 2 rfl).trans ((u28.past 2 rfl).trans ((u26.past 2 rfl).trans ((u25.past 2 rfl).trans ((u24.past 2 rfl).trans ((u23.past 2 rfl).trans ((u22.past 2 rfl).trans ((u20.past 2 rfl).trans ((u19.past 2 rfl).trans ((u17.past 2 rfl).trans ((u16.past 2 rfl).trans ((u15.past 2 rfl).trans ((u14.past 2 rfl).trans ((u13.past 2 rfl).trans ((u12.past 2 rfl).trans ((u10.past 2 rfl).trans ((u9.past 2 rfl).trans ((u7.past 2 rfl).trans ((u3.past 2 rfl).trans (u1.here _ rfl)))))))))))))))))))) (fa_29_2 _ _ _)) ?_; intro a30 u30 z30
  refine sg2 z30 rfl rfl rfl ((u30.past 21 rfl).trans (u29.here _ rfl)) (fun hcQ => ex_load ((u30.here _ rfl).trans (if_pos hcQ)) (Try.isAgg3 _) (cell_of hb1_27 rfl)) ?_; intro a31 u31 z31
  refine sg2 z31 rfl rfl rfl ((u31.past 21 rfl).trans ((u30.past 21 rfl).trans (u29.here _ rfl))) (fun hcQ => ex_fieldAddr ((u31.past 3 rfl).trans ((u30.past 3 rfl).trans ((u29.past 3 rfl).trans ((u28.past 3 rfl).trans ((u26.past 3 rfl).trans ((u25.past 3 rfl).trans ((u24.past 3 rfl).trans ((u23.past 3 rfl).trans ((u22.past 3 rfl).trans ((u20.past 3 rfl).trans ((u19.past 3 rfl).trans ((u17.past 3 rfl).trans ((u16.past 3 rfl).trans ((u15.past 3 rfl).trans ((u14.past 3 rfl).trans ((u13.past 3 rfl).trans ((u12.past 3 rfl).trans ((u10.past 3 rfl).trans ((u9.past 3 rfl).trans ((u7.past 3 rfl).trans (u3.here _ rfl))))))))))))))))))))) (fa_31_2 _ _ _)) ?_; intro a32 u32 z32
  have hb3_34 := (Ext.keep t22 hb3_21)
  refine sg2 z32 rfl rfl rfl ((u32.past 21 rfl).trans ((u31.past 21 rfl).trans ((u30.past 21 rfl).trans (u29.here _ rfl)))) (fun hcQ => ex_load ((u32.here _ rfl).trans (if_pos hcQ)) (Try.isAgg5 _) (cell_of hb3_34 rfl)) ?_; intro a33 u33 z33
  refine sg2 z33 rfl rfl rfl ((u33.past 21 rfl).trans ((u32.past 21 rfl).trans ((u31.past 21 rfl).trans ((u30.past 21 rfl).trans (u29.here _ rfl))))) (fun hcQ => by have hdQ := hcQ; (try simp only [Bool.and_eq_true, Bool.or_eq_false_iff, Bool.not_eq_true', Bool.not_eq_false', beq_iff_eq, decide_eq_true_eq, decide_eq_false_iff_not] at hdQ); exact ex_convert ((u33.here _ rfl).trans (if_pos hcQ)) (cvn_5_3 (by omega))) ?_; intro a35 u35 z35
  refine sg2 z35 rfl rfl rfl ((u35.past 21 rfl).trans ((u33.past 21 rfl).trans ((u32.past 21 rfl).trans ((u31.past 21 rfl).trans ((u30.past 21 rfl).trans (u29.here _ rfl)))))) (fun hcQ => ex_eql (((u35.past 23 rfl).trans ((u33.past 23 rfl).trans ((u32.past 23 rfl).trans (u31.here _ rfl)))).trans (if_pos hcQ)) ((u35.here _ rfl).trans (if_pos hcQ))) ?_; intro a36 u36 z36
  refine sg z36 rfl rfl rfl ((u36.past 17 rfl).trans ((u35.past 17 rfl).trans ((u33.past 17 rfl).trans ((u32.past 17 rfl).trans ((u31.past 17 rfl).trans ((u30.past 17 rfl).trans ((u29.past 17 rfl).trans ((u28.past 17 rfl).trans ((u26.past 17 rfl).trans ((u25.past 17 rfl).trans (u24.here _ rfl))))))))))) (fun hcQ => ex_pick_or (((u36.past 21 rfl).trans ((u35.past 21 rfl).trans ((u33.past 21 rfl).trans ((u32.past 21 rfl).trans ((u31.past 21 rfl).trans ((u30.past 21 rfl).trans (u29.here _ rfl))))))).trans (if_pos hcQ)) rfl ((u36.here _ rfl).trans (opt_in hcQ))) ?_; intro a37 u37 z37
  refine sp z37 rfl rfl (ex_pick_and ((u37.past 17 rfl).trans ((u36.past 17 rfl).trans ((u35.past 17 rfl).trans ((u33.past 17 rfl).trans ((u32.past 17 rfl).trans ((u31.past 17 rfl).trans ((u30.past 17 rfl).trans ((u29.past 17 rfl).trans ((u28.past 17 rfl).trans ((u26.past 17 rfl).trans ((u25.past 17 rfl).trans (u24.here _ rfl)))))))))))) (u37.here _ rfl) rfl) ?_; intro a38 u38 z38
  refine sp z38 rfl rfl (ex_move (u38.here _ rfl)) ?_; intro a39 u39 z39
  refine sg z39 rfl rfl rfl (u39.here _ rfl) (fun hcQ => ex_fieldAddr ((u39.past 2 rfl).trans ((u38.past 2 rfl).trans ((u37.past 2 rfl).trans ((u36.past 2 rfl).trans ((u35.past 2 rfl).trans ((u33.past 2 rfl).trans ((u32.past 2 rfl).trans ((u31.past 2 rfl).trans ((u30.past 2 rfl).trans ((u29.past 2 rfl).trans ((u28.past 2 rfl).trans ((u26.past 2 rfl).trans ((u25.past 2 rfl).trans ((u24.past 2 rfl).trans ((u23.past 2 rfl).trans ((u22.past 2 rfl).trans ((u20.past 2 rfl).trans ((u19.past 2 rfl).trans ((u17.past 2 rfl).trans ((u16.past 2 rfl).trans ((u15.past 2 rfl).trans ((u14.past 2 rfl).trans ((u13.past 2 rfl).trans ((u12.past 2 rfl).trans ((u10.past 2 rfl).trans ((u9.past 2 rfl).trans ((u7.past 2 rfl).trans ((u3.past 2 rfl).trans (u1.here _ rfl))))))))))))))))))))))))))))) (fa_29_3 _ _ _)) ?_; intro a40 u40 z40
  refine sg z40 rfl rfl rfl ((u40.past 30 rfl).trans (u39.here _ rfl)) (fun hcQ => ex_loadAgg (cs := [.int .u16 fsl, .int .u16 fsh]) ((u40.here _ rfl).trans (if_pos hcQ)) (Try.isAgg27 _) (Try.sizeOf27 _) (cells_of (off := 5) hb1_27 rfl)) ?_; intro a41 u41 z41
  refine sg z41 rfl rfl rfl ((u41.past 30 rfl).trans ((u40.past 30 rfl).trans (u39.here _ rfl))) (fun hcQ => ex_fieldAddr ((u41.past 3 rfl).trans ((u40.past 3 rfl).trans ((u39.past 3 rfl).trans ((u38.past 3 rfl).trans ((u37.past 3 rfl).trans ((u36.past 3 rfl).trans ((u35.past 3 rfl).trans ((u33.past 3 rfl).trans ((u32.past 3 rfl).trans ((u31.past 3 rfl).trans ((u30.past 3 rfl).trans ((u29.past 3 rfl).trans ((u28.past 3 rfl).trans ((u26.past 3 rfl).trans ((u25.past 3 rfl).trans ((u24.past 3 rfl).trans ((u23.past 3 rfl).trans ((u22.past 3 rfl).trans ((u20.past 3 rfl).trans ((u19.past 3 rfl).trans ((u17.past 3 rfl).trans ((u16.past 3 rfl).trans ((u15.past 3 rfl).trans ((u14.past 3 rfl).trans ((u13.past 3 rfl).trans ((u12.past 3 rfl).trans ((u10.past 3 rfl).trans ((u9.past 3 rfl).trans ((u7.past 3 rfl).trans (u3.here _ rfl)))))))))))))))))))))))))))))) (fa_31_3 _ _ _)) ?_; intro a42 u42 z42
  refine sg z42 rfl rfl rfl ((u42.past 30 rfl).trans ((u41.past 30 rfl).trans ((u40.past 30 rfl).trans (u39.here _ rfl)))) (fun hcQ => ex_load ((u42.here _ rfl).trans (if_pos hcQ)) (Try.isAgg25 _) (cell_of hb3_34 rfl)) ?_; intro a43 u43 z43
  refine scg z43 rfl rfl rfl ((u43.past 30 rfl).trans ((u42.past 30 rfl).trans ((u41.past 30 rfl).trans ((u40.past 30 rfl).trans (u39.here _ rfl))))) (fun hcQ => exl_call Try.func160 rfl rfl (cons_ops (((u43.past 32 rfl).trans ((u42.past 32 rfl).trans (u41.here _ rfl))).trans (if_pos hcQ)) (cons_ops ((u43.here _ rfl).trans (if_pos hcQ)) nil_ops))) (fun hcQ => c_rin fsl fsh hsp  _) ?_; intro w44 a44 t44 u44 z44
  refine sp z44 rfl rfl (ex_pick_and ((u44.past 30 rfl).trans ((u43.past 30 rfl).trans ((u42.past 30 rfl).trans ((u41.past 30 rfl).trans ((u40.past 30 rfl).trans (u39.here _ rfl)))))) (u44.here _ rfl) rfl) ?_; intro a45 u45 z45
  refine sp z45 rfl rfl (ex_move (u45.here _ rfl)) ?_; intro a46 u46 z46
  refine sg z46 rfl rfl rfl (u46.here _ rfl) (fun hcQ => ex_fieldAddr ((u46.past 2 rfl).trans ((u45.past 2 rfl).trans ((u44.past 2 rfl).trans ((u43.past 2 rfl).trans ((u42.past 2 rfl).trans ((u41.past 2 rfl).trans ((u40.past 2 rfl).trans ((u39.past 2 rfl).trans ((u38.past 2 rfl).trans ((u37.past 2 rfl).trans ((u36.past 2 rfl).trans ((u35.past 2 rfl).trans ((u33.past 2 rfl).trans ((u32.past 2 rfl).trans ((u31.past 2 rfl).trans ((u30.past 2 rfl).trans ((u29.past 2 rfl).trans ((u28.past 2 rfl).trans ((u26.past 2 rfl).trans ((u25.past 2 rfl).trans ((u24.past 2 rfl).trans ((u23.past 2 rfl).trans ((u22.past 2 rfl).trans ((u20.past 2 rfl).trans ((u19.past 2 rfl).trans ((u17.past 2 rfl).trans ((u16.past 2 rfl).trans ((u15.past 2 rfl).trans ((u14.past 2 rfl).trans ((u13.past 2 rfl).trans ((u12.past 2 rfl).trans ((u10.past 2 rfl).trans ((u9.past 2 rfl).trans ((u7.past 2 rfl).trans ((u3.past 2 rfl).trans (u1.here _ rfl)))))))))))))))))))))))))))))))))))) (fa_29_4 _ _ _)) ?_; intro a47 u47 z47
  have hb1_49 := (Ext.keep t44 hb1_27)
  refine sg z47 rfl rfl rfl ((u47.past 37 rfl).trans (u46.here _ rfl)) (fun hcQ => ex_loadAgg (cs := [.int .u16 fdl, .int .u16 fdh]) ((u47.here _ rfl).trans (if_pos hcQ)) (Try.isAgg27 _) (Try.sizeOf27 _) (cells_of (off := 7) hb1_49 rfl)) ?_; intro a48 u48 z48
  refine sg z48 rfl rfl rfl ((u48.past 37 rfl).trans ((u47.past 37 rfl).trans (u46.here _ rfl))) (fun hcQ => ex_fieldAddr ((u48.past 3 rfl).trans ((u47.past 3 rfl).trans ((u46.past 3 rfl).trans ((u45.past 3 rfl).trans ((u44.past 3 rfl).trans ((u43.past 3 rfl).trans ((u42.past 3 rfl).trans ((u41.past 3 rfl).trans ((u40.past 3 rfl).trans ((u39.past 3 rfl).trans ((u38.past 3 rfl).trans ((u37.past 3 rfl).trans ((u36.past 3 rfl).trans ((u35.past 3 rfl).trans ((u33.past 3 rfl).trans ((u32.past 3 rfl).trans ((u31.past 3 rfl).trans ((u30.past 3 rfl).trans ((u29.past 3 rfl).trans ((u28.past 3 rfl).trans ((u26.past 3 rfl).trans ((u25.past 3 rfl).trans ((u24.past 3 rfl).trans ((u23.past 3 rfl).trans ((u22.past 3 rfl).trans ((u20.past 3 rfl).trans ((u19.past 3 rfl).trans ((u17.past 3 rfl).trans ((u16.past 3 rfl).trans ((u15.past 3 rfl).trans ((u14.past 3 rfl).trans ((u13.past 3 rfl).trans ((u12.past 3 rfl).trans ((u10.past 3 rfl).trans ((u9.past 3 rfl).trans ((u7.past 3 rfl).trans (u3.here _ rfl))))))))))))))))))))))))))))))))))))) (fa_31_4 _ _ _)) ?_; intro a50 u50 z50
  have hb3_52 := (Ext.keep t44 hb3_34)
  refine sg z50 rfl rfl rfl ((u50.past 37 rfl).trans ((u48.past 37 rfl).trans ((u47.past 37 rfl).trans (u46.here _ rfl)))) (fun hcQ => ex_load ((u50.here _ rfl).trans (if_pos hcQ)) (Try.isAgg25 _) (cell_of hb3_52 rfl)) ?_; intro a51 u51 z51
  refine scg z51 rfl rfl rfl ((u51.past 37 rfl).trans ((u50.past 37 rfl).trans ((u48.past 37 rfl).trans ((u47.past 37 rfl).trans (u46.here _ rfl))))) (fun hcQ => exl_call Try.func160 rfl rfl (cons_ops (((u51.past 39 rfl).trans ((u50.past 39 rfl).trans (u48.here _ rfl))).trans (if_pos hcQ)) (cons_ops ((u51.here _ rfl).trans (if_pos hcQ)) nil_ops))) (fun hcQ => c_rin fdl fdh hdp  _) ?_; intro w53 a53 t53 u53 z53
  refine sp z53 rfl rfl (ex_pick_and ((u53.past 37 rfl).trans ((u51.past 37 rfl).trans ((u50.past 37 rfl).trans ((u48.past 37 rfl).trans ((u47.past 37 rfl).trans (u46.here _ rfl)))))) (u53.here _ rfl) rfl) ?_; intro a54 u54 z54
  refine sp z54 rfl rfl (ex_assign (u54.here _ rfl)) ?_; intro a55 u55 z55
  have d56 := (u55.defs.trans (u54.defs.trans (u53.defs.trans (u51.defs.trans (u50.defs.trans (u48.defs.trans (u47.defs.trans (u46.defs.trans (u45.defs.trans (u44.defs.trans (u43.defs.trans (u42.defs.trans (u41.defs.trans (u40.defs.trans (u39.defs.trans (u38.defs.trans (u37.defs.trans (u36.defs.trans (u35.defs.trans (u33.defs.trans (u32.defs.trans (u31.defs.trans (u30.defs.trans (u29.defs.trans (u28.defs.trans (u26.defs.trans (u25.defs.trans (u24.defs.trans (u23.defs.trans (u22.defs.trans (u20.defs.trans (u19.defs.trans (u17.defs.trans (u16.defs.trans (u15.defs.trans (u14.defs.trans (u13.defs.trans (u12.defs.trans (u10.defs.trans (u9.defs.trans d8))))))))))))))))))))))))))))))))))))))))
  refine seq_end ?_
  refine then_norm ?_
  refine wp_ret ?_
  have s57_4 : a55.eval (.tmp 4) = .bool (((((has fda fdb hd) && (has fsa fsb hs)) && ((decide (fp = (-1))) || (decide (fp = hp)))) && (rin fsl fsh hsp)) && (rin fdl fdh hdp)) := (u55.here _ rfl)
  repeat (first | (with_reducible refine then_ret ?_) | (with_reducible refine block_ret ?_))
  refine retl (rs := [.tmp 4]) Try.results142 ⟨s57_4, trivial⟩ d56 ?_
  have x58 := (Touch.trans (Touch.trans (Touch.trans (Touch.trans (Touch.trans x6 (Ext.touch t3)) (Ext.touch t14)) (Ext.touch t22)) (Ext.touch t44)) (Ext.touch t53))
  exact ⟨by unfold fmatch; rfl, x58.ext⟩

def fcheck (fda : Int) (fdb : Int) (fsa : Int) (fsb : Int) (fp : Int) (fsl : Int) (fsh : Int) (fdl : Int) (fdh : Int) : Int := if ((!(right fda fdb)) || (!(right fsa fsb))) = true then 13 else if ((decide (fp < (-1))) || (decide (255 < fp))) = true then 5 else if ((decide (fsh < fsl)) || (decide (fdh < fdl))) = true then 14 else 0
set_option maxRecDepth 100000 in
set_option maxHeartbeats 4000000 in
theorem c_fcheck (fda : Int) (fdb : Int) (fsa : Int) (fsb : Int) (fp : Int) (fsl : Int) (fsh : Int) (fdl : Int) (fdh : Int) (hfdb : -4611686018427387904 ≤ fdb ∧ fdb ≤ 4611686018427387904)(hfsb : -4611686018427387904 ≤ fsb ∧ fsb ≤ 4611686018427387904) (w : World) : Calls Try.prog 51 #[.agg #[.int .u32 fda, .int .i64 fdb, .int .u32 fsa, .int .i64 fsb, .int .i64 fp, .int .u16 fsl, .int .u16 fsh, .int .u16 fdl, .int .u16 fdh]] w fun e w' => e = .returned (.int .i64 (fcheck fda fdb fsa fsb fp fsl fsh fdl fdh)) ∧ Ext w w' := by
  refine enter 40 Try.ntmps51 Try.func51 rfl (Nat.le_of_ble_eq_true rfl) fun a0 d0 z0 hargs => ?_
  have s0_0 : a0.eval (.tmp 0) = .agg #[.int .u32 fda, .int .i64 fdb, .int .u32 fsa, .int .i64 fsb, .int .i64 fp, .int .u16 fsl, .int .u16 fsh, .int .u16 fdl, .int .u16 fdh] := hargs 0 _ rfl
  have x0 := Touch.refl NoF w
  refine wp_seq ?_
  refine seq_begin ?_
  refine sbox z0 rfl s0_0 ?_; intro b1 w1 a1 t1 g1 hb1 u1 z1
  have yb1_2 := Nat.le_trans (Touch.size x0) g1
  refine sp z1 rfl rfl (ex_assign rfl) ?_; intro a3 u3 z3
  have d4 := (u3.defs.trans (u1.defs.trans d0))
  refine seq_end ?_
  refine then_norm ?_
  refine wp_seq_k fun K5 hK5 => ?_
  refine wp_block ?_
  refine wp_seq ?_
  refine seq_begin ?_
  refine sp z3 rfl rfl (ex_fieldAddr ((u3.past 1 rfl).trans (u1.here _ rfl)) (fa_29_0 _ _ _)) ?_; intro a6 u6 z6
  refine sp z6 rfl rfl (ex_loadAgg (cs := [.int .u32 fda, .int .i64 fdb]) (u6.here _ rfl) (Try.isAgg24 _) (Try.sizeOf24 _) (cells_of (off := 0) hb1 rfl)) ?_; intro a7 u7 z7
  refine scx z7 rfl rfl (exl_call Try.func100 rfl rfl (cons_ops (u7.here _ rfl) nil_ops)) (c_right fda fdb (by omega) _) ?_; intro w8 a8 t8 u8 z8
  refine sp z8 rfl rfl (ex_not (u8.here _ rfl)) ?_; intro a9 u9 z9
  refine sp z9 rfl rfl (ex_move (u9.here _ rfl)) ?_; intro a10 u10 z10
  refine sg z10 rfl rfl rfl (u10.here _ rfl) (fun hcQ => ex_fieldAddr ((u10.past 1 rfl).trans ((u9.past 1 rfl).trans ((u8.past 1 rfl).trans ((u7.past 1 rfl).trans ((u6.past 1 rfl).trans ((u3.past 1 rfl).trans (u1.here _ rfl))))))) (fa_29_1 _ _ _)) ?_; intro a11 u11 z11
  have hb1_13 := (Ext.keep t8 hb1)
  refine sg z11 rfl rfl rfl ((u11.past 8 rfl).trans (u10.here _ rfl)) (fun hcQ => ex_loadAgg (cs := [.int .u32 fsa, .int .i64 fsb]) ((u11.here _ rfl).trans (if_pos hcQ)) (Try.isAgg24 _) (Try.sizeOf24 _) (cells_of (off := 2) hb1_13 rfl)) ?_; intro a12 u12 z12
  refine scg z12 rfl rfl rfl ((u12.past 8 rfl).trans ((u11.past 8 rfl).trans (u10.here _ rfl))) (fun hcQ => exl_call Try.func100 rfl rfl (cons_ops ((u12.here _ rfl).trans (if_pos hcQ)) nil_ops)) (fun hcQ => by (try simp only [Bool.and_eq_true, Bool.or_eq_false_iff, Bool.not_eq_true', Bool.not_eq_false', beq_iff_eq, decide_eq_true_eq, decide_eq_false_iff_not] at hcQ); exact c_right fsa fsb (by omega) _) ?_; intro w14 a14 t14 u14 z14
  refine sg z14 rfl rfl rfl ((u14.past 8 rfl).trans ((u12.past 8 rfl).trans ((u11.past 8 rfl).trans (u10.here _ rfl)))) (fun hcQ => ex_not ((u14.here _ rfl).trans (if_pos hcQ))) ?_; intro a15 u15 z15
  refine sp z15 rfl rfl (ex_pick_or ((u15.past 8 rfl).trans ((u14.past 8 rfl).trans ((u12.past 8 rfl).trans ((u11.past 8 rfl).trans (u10.here _ rfl))))) rfl (u15.here _ rfl)) ?_; intro a16 u16 z16
  refine sp z16 rfl rfl (ex_assign (u16.here _ rfl)) ?_; intro a17 u17 z17
  have d18 := (u17.defs.trans (u16.defs.trans (u15.defs.trans (u14.defs.trans (u12.defs.trans (u11.defs.trans (u10.defs.trans (u9.defs.trans (u8.defs.trans (u7.defs.trans (u6.defs.trans d4)))))))))))
  refine seq_end ?_
  refine then_norm ?_
  rcases Bool.eq_false_or_eq_true ((!(right fda fdb)) || (!(right fsa fsb))) with y19 | y19
  · have c19 := y19
    have s20_3 : a17.eval (.tmp 3) = .bool ((!(right fda fdb)) || (!(right fsa fsb))) := (u17.here _ rfl)
    refine wp_cond_true (s20_3.trans (by rw [y19])) ?_
    refine rgs mixed 40 [.eq (.int .i64 13)] [[]] d18 z17 (by kernel_rfl) ⟨Ov rfl rfl fun _ _ T _ => ex_assign rfl, trivial⟩ ?_
    intro a21 w21 d21 z21 t21 e21 q21
    refine wp_ret ?_
    have s22_2 : a21.eval (.tmp 2) = .int .i64 13 := e21.1
    repeat (first | (with_reducible refine then_ret ?_) | (with_reducible refine block_ret ?_))
    refine retl (rs := [.tmp 2]) Try.results51 ⟨s22_2, trivial⟩ d21 ?_
    have x23 := (Touch.trans (Touch.trans (Touch.trans (Touch.trans x0 (Ext.touch t1)) (Ext.touch t8)) (Ext.touch t14)) (Ext.touch t21))
    exact ⟨by unfold fcheck; rw [if_pos y19], x23.ext⟩
  · have c19 := y19
    have s24_3 : a17.eval (.tmp 3) = .bool ((!(right fda fdb)) || (!(right fsa fsb))) := (u17.here _ rfl)
    refine wp_cond_false (s24_3.trans (by rw [y19])) ?_
    have s25_1 : a1.eval (.tmp 1) = .pointer (some ⟨b1, 0, none⟩) := (u1.here _ rfl)
    have s26_1 := ((u17.past 1 rfl).trans ((u16.past 1 rfl).trans ((u15.past 1 rfl).trans ((u14.past 1 rfl).trans ((u12.past 1 rfl).trans ((u11.past 1 rfl).trans ((u10.past 1 rfl).trans ((u9.past 1 rfl).trans ((u8.past 1 rfl).trans ((u7.past 1 rfl).trans ((u6.past 1 rfl).trans ((u3.past 1 rfl).trans s25_1))))))))))))
    have hb1_27 := (Ext.keep t14 hb1_13)
    refine rgs mixed 40 [.eq (.pointer (some ⟨b1, 4, none⟩)), .eq (.int .i64 fp), .eq (.bool (decide (fp < (-1)))), .eq (.bool (decide (fp < (-1)))), .eq (if (decide (fp < (-1))) = false then .pointer (some ⟨b1, 4, none⟩) else undef), .eq (if (decide (fp < (-1))) = false then .int .i64 fp else undef), .eq (if (decide (fp < (-1))) = false then .bool (decide (255 < fp)) else undef), .eq (.bool ((decide (fp < (-1))) || (decide (255 < fp)))), .eq (.bool ((decide (fp < (-1))) || (decide (255 < fp))))] [[(1, none)], [(15, some 0)], [(16, some 1)], [(17, some 2)], [(1, none), (18, some 3)], [(19, some 4), (18, some 3)], [(20, some 5), (18, some 3)], [(18, some 3), (21, some 6)], [(22, some 7)]] d18 z17 (by kernel_rfl) ⟨Ov rfl rfl fun _ _ T ⟨k1, _⟩ => ex_fieldAddr (k1.trans s26_1) (fa_29_2 _ _ _),
      Ov rfl rfl fun _ _ T ⟨k15, _⟩ => ex_load k15 (Try.isAgg3 _) (cell_of (Ext.keep T.ext hb1_27) rfl),
      Ov rfl rfl fun _ _ T ⟨k16, _⟩ => ex_lss k16 rfl,
      Ov rfl rfl fun _ _ T ⟨k17, _⟩ => ex_move k17,
      Og rfl rfl rfl fun _ _ T ⟨k1, k18, _⟩ => ⟨k18, fun hcQ => ex_fieldAddr (k1.trans s26_1) (fa_29_2 _ _ _)⟩,
      Og rfl rfl rfl fun _ _ T ⟨k19, k18, _⟩ => ⟨k18, fun hcQ => ex_load (k19.trans (if_pos hcQ)) (Try.isAgg3 _) (cell_of (Ext.keep T.ext hb1_27) rfl)⟩,
      Og rfl rfl rfl fun _ _ T ⟨k20, k18, _⟩ => ⟨k18, fun hcQ => ex_gtr (k20.trans (if_pos hcQ)) rfl⟩,
      Ov rfl rfl fun _ _ T ⟨k18, k21, _⟩ => ex_pick_or k18 rfl k21,
      Ov rfl rfl fun _ _ T ⟨k22, _⟩ => ex_assign k22,
      trivial⟩ ?_
    intro a28 w28 d28 z28 t28 e28 q28
    rcases Bool.eq_false_or_eq_true ((decide (fp < (-1))) || (decide (255 < fp))) with y29 | y29
    · have c29 := y29; try simp only [Bool.and_eq_true, Bool.or_eq_true, Bool.and_eq_false_iff, Bool.or_eq_false_iff, Bool.not_eq_true', Bool.not_eq_false', decide_eq_true_eq, decide_eq_false_iff_not] at c29
      have s30_14 : a28.eval (.tmp 14) = .bool ((decide (fp < (-1))) || (decide (255 < fp))) := e28.2.2.2.2.2.2.2.2.1
      refine wp_cond_true (s30_14.trans (by rw [y29])) ?_
      refine rgs mixed 40 [.eq (.int .i64 5)] [[]] d28 z28 (by kernel_rfl) ⟨Ov rfl rfl fun _ _ T _ => ex_assign rfl, trivial⟩ ?_
      intro a31 w31 d31 z31 t31 e31 q31
      refine wp_ret ?_
      have s32_2 : a31.eval (.tmp 2) = .int .i64 5 := e31.1
      repeat (first | (with_reducible refine then_ret ?_) | (with_reducible refine block_ret ?_))
      refine retl (rs := [.tmp 2]) Try.results51 ⟨s32_2, trivial⟩ d31 ?_
      have x33 := (Touch.trans (Touch.trans (Touch.trans (Touch.trans (Touch.trans x0 (Ext.touch t1)) (Ext.touch t8)) (Ext.touch t14)) (Ext.touch t28)) (Ext.touch t31))
      exact ⟨by unfold fcheck; rw [if_neg (by rw [y19]; decide), if_pos y29], x33.ext⟩
    · have c29 := y29; try simp only [Bool.and_eq_true, Bool.or_eq_true, Bool.and_eq_false_iff, Bool.or_eq_false_iff, Bool.not_eq_true', Bool.not_eq_false', decide_eq_true_eq, decide_eq_false_iff_not] at c29
      have s34_14 : a28.eval (.tmp 14) = .bool ((decide (fp < (-1))) || (decide (255 < fp))) := e28.2.2.2.2.2.2.2.2.1
      refine wp_cond_false (s34_14.trans (by rw [y29])) ?_
      have s35_1 := ((q28 1 rfl).trans s26_1)
      have hb1_36 := (Ext.keep t28 hb1_27)
      refine rgs mixed 40 [.eq (.pointer (some ⟨b1, 5, none⟩)), .eq (.pointer (some ⟨b1, 5, none⟩)), .eq (.int .u16 fsl), .eq (.pointer (some ⟨b1, 5, none⟩)), .eq (.pointer (some ⟨b1, 6, none⟩)), .eq (.int .u16 fsh), .eq (.bool (decide (fsh < fsl))), .eq (.bool (decide (fsh < fsl))), .eq (if (decide (fsh < fsl)) = false then .pointer (some ⟨b1, 7, none⟩) else undef), .eq (if (decide (fsh < fsl)) = false then .pointer (some ⟨b1, 7, none⟩) else undef), .eq (if (decide (fsh < fsl)) = false then .int .u16 fdl else undef), .eq (if (decide (fsh < fsl)) = false then .pointer (some ⟨b1, 7, none⟩) else undef), .eq (if (decide (fsh < fsl)) = false then .pointer (some ⟨b1, 8, none⟩) else undef), .eq (if (decide (fsh < fsl)) = false then .int .u16 fdh else undef), .eq (if (decide (fsh < fsl)) = false then .bool (decide (fdh < fdl)) else undef), .eq (.bool ((decide (fsh < fsl)) || (decide (fdh < fdl)))), .eq (.bool ((decide (fsh < fsl)) || (decide (fdh < fdl))))] [[(1, none)], [(24, some 0)], [(25, some 1)], [(1, none)], [(27, some 3)], [(28, some 4)], [(26, some 2), (29, some 5)], [(30, some 6)], [(1, none), (31, some 7)], [(32, some 8), (31, some 7)], [(33, some 9), (31, some 7)], [(1, none), (31, some 7)], [(35, some 11), (31, some 7)], [(36, some 12), (31, some 7)], [(34, some 10), (37, some 13), (31, some 7)], [(31, some 7), (38, some 14)], [(39, some 15)]] d28 z28 (by kernel_rfl) ⟨Ov rfl rfl fun _ _ T ⟨k1, _⟩ => ex_fieldAddr (k1.trans s35_1) (fa_29_3 _ _ _),
        Ov rfl rfl fun _ _ T ⟨k24, _⟩ => ex_fieldAddr k24 (fa_27_0 _ _ _),
        Ov rfl rfl fun _ _ T ⟨k25, _⟩ => ex_load k25 (Try.isAgg25 _) (cell_of (Ext.keep T.ext hb1_36) rfl),
        Ov rfl rfl fun _ _ T ⟨k1, _⟩ => ex_fieldAddr (k1.trans s35_1) (fa_29_3 _ _ _),
        Ov rfl rfl fun _ _ T ⟨k27, _⟩ => ex_fieldAddr k27 (fa_27_1 _ _ _),
        Ov rfl rfl fun _ _ T ⟨k28, _⟩ => ex_load k28 (Try.isAgg25 _) (cell_of (Ext.keep T.ext hb1_36) rfl),
        Ov rfl rfl fun _ _ T ⟨k26, k29, _⟩ => ex_gtr k26 k29,
        Ov rfl rfl fun _ _ T ⟨k30, _⟩ => ex_move k30,
        Og rfl rfl rfl fun _ _ T ⟨k1, k31, _⟩ => ⟨k31, fun hcQ => ex_fieldAddr (k1.trans s35_1) (fa_29_4 _ _ _)⟩,
        Og rfl rfl rfl fun _ _ T ⟨k32, k31, _⟩ => ⟨k31, fun hcQ => ex_fieldAddr (k32.trans (if_pos hcQ)) (fa_27_0 _ _ _)⟩,
        Og rfl rfl rfl fun _ _ T ⟨k33, k31, _⟩ => ⟨k31, fun hcQ => ex_load (k33.trans (if_pos hcQ)) (Try.isAgg25 _) (cell_of (Ext.keep T.ext hb1_36) rfl)⟩,
        Og rfl rfl rfl fun _ _ T ⟨k1, k31, _⟩ => ⟨k31, fun hcQ => ex_fieldAddr (k1.trans s35_1) (fa_29_4 _ _ _)⟩,
        Og rfl rfl rfl fun _ _ T ⟨k35, k31, _⟩ => ⟨k31, fun hcQ => ex_fieldAddr (k35.trans (if_pos hcQ)) (fa_27_1 _ _ _)⟩,
        Og rfl rfl rfl fun _ _ T ⟨k36, k31, _⟩ => ⟨k31, fun hcQ => ex_load (k36.trans (if_pos hcQ)) (Try.isAgg25 _) (cell_of (Ext.keep T.ext hb1_36) rfl)⟩,
        Og rfl rfl rfl fun _ _ T ⟨k34, k37, k31, _⟩ => ⟨k31, fun hcQ => ex_gtr (k34.trans (if_pos hcQ)) (k37.trans (if_pos hcQ))⟩,
        Ov rfl rfl fun _ _ T ⟨k31, k38, _⟩ => ex_pick_or k31 rfl k38,
        Ov rfl rfl fun _ _ T ⟨k39, _⟩ => ex_assign k39,
        trivial⟩ ?_
      intro a37 w37 d37 z37 t37 e37 q37
      rcases Bool.eq_false_or_eq_true ((decide (fsh < fsl)) || (decide (fdh < fdl))) with y38 | y38
      · have c38 := y38; try simp only [Bool.and_eq_true, Bool.or_eq_true, Bool.and_eq_false_iff, Bool.or_eq_false_iff, Bool.not_eq_true', Bool.not_eq_false', decide_eq_true_eq, decide_eq_false_iff_not] at c38
        have s39_23 : a37.eval (.tmp 23) = .bool ((decide (fsh < fsl)) || (decide (fdh < fdl))) := e37.2.2.2.2.2.2.2.2.2.2.2.2.2.2.2.2.1
        refine wp_cond_true (s39_23.trans (by rw [y38])) ?_
        refine rgs mixed 40 [.eq (.int .i64 14)] [[]] d37 z37 (by kernel_rfl) ⟨Ov rfl rfl fun _ _ T _ => ex_assign rfl, trivial⟩ ?_
        intro a40 w40 d40 z40 t40 e40 q40
        refine wp_ret ?_
        have s41_2 : a40.eval (.tmp 2) = .int .i64 14 := e40.1
        repeat (first | (with_reducible refine then_ret ?_) | (with_reducible refine block_ret ?_))
        refine retl (rs := [.tmp 2]) Try.results51 ⟨s41_2, trivial⟩ d40 ?_
        have x42 := (Touch.trans (Touch.trans (Touch.trans (Touch.trans (Touch.trans (Touch.trans x0 (Ext.touch t1)) (Ext.touch t8)) (Ext.touch t14)) (Ext.touch t28)) (Ext.touch t37)) (Ext.touch t40))
        exact ⟨by unfold fcheck; rw [if_neg (by rw [y19]; decide), if_neg (by rw [y29]; decide), if_pos y38], x42.ext⟩
      · have c38 := y38; try simp only [Bool.and_eq_true, Bool.or_eq_true, Bool.and_eq_false_iff, Bool.or_eq_false_iff, Bool.not_eq_true', Bool.not_eq_false', decide_eq_true_eq, decide_eq_false_iff_not] at c38
        have s43_23 : a37.eval (.tmp 23) = .bool ((decide (fsh < fsl)) || (decide (fdh < fdl))) := e37.2.2.2.2.2.2.2.2.2.2.2.2.2.2.2.2.1
        refine wp_cond_false (s43_23.trans (by rw [y38])) ?_
        refine wp_skip ?_
        repeat (with_reducible refine block_norm ?_)
        refine hK5 _ _ ?_
        refine rgs mixed 40 [.eq (.int .i64 0)] [[]] d37 z37 (by kernel_rfl) ⟨Ov rfl rfl fun _ _ T _ => ex_assign rfl, trivial⟩ ?_
        intro a44 w44 d44 z44 t44 e44 q44
        refine wp_ret ?_
        have s45_2 : a44.eval (.tmp 2) = .int .i64 0 := e44.1
        repeat (first | (with_reducible refine then_ret ?_) | (with_reducible refine block_ret ?_))
        refine retl (rs := [.tmp 2]) Try.results51 ⟨s45_2, trivial⟩ d44 ?_
        have x46 := (Touch.trans (Touch.trans (Touch.trans (Touch.trans (Touch.trans (Touch.trans x0 (Ext.touch t1)) (Ext.touch t8)) (Ext.touch t14)) (Ext.touch t28)) (Ext.touch t37)) (Ext.touch t44))
        exact ⟨by unfold fcheck; rw [if_neg (by rw [y19]; decide), if_neg (by rw [y29]; decide), if_neg (by rw [y38]; decide)], x46.ext⟩

def ahead (xi : Int) (xd : Int) (xa : Int) (xb : Int) (xp : Int) (xo : Int) (yi : Int) (yd : Int) (ya : Int) (yb : Int) (yp : Int) (yo : Int) : Bool := if xp ≠ yp then decide (yp < xp) else if xb ≠ yb then decide (yb < xb) else decide (xi < yi)
set_option maxRecDepth 100000 in
set_option maxHeartbeats 4000000 in
theorem c_ahead (xi : Int) (xd : Int) (xa : Int) (xb : Int) (xp : Int) (xo : Int) (yi : Int) (yd : Int) (ya : Int) (yb : Int) (yp : Int) (yo : Int) (w : World) : Calls Try.prog 135 #[.agg #[.int .i64 xi, .int .i64 xd, .int .u32 xa, .int .i64 xb, .int .i64 xp, .int .i64 xo], .agg #[.int .i64 yi, .int .i64 yd, .int .u32 ya, .int .i64 yb, .int .i64 yp, .int .i64 yo]] w fun e w' => e = .returned (.bool (ahead xi xd xa xb xp xo yi yd ya yb yp yo)) ∧ Ext w w' := by
  refine enter 34 Try.ntmps135 Try.func135 rfl (Nat.le_of_ble_eq_true rfl) fun a0 d0 z0 hargs => ?_
  have s0_0 : a0.eval (.tmp 0) = .agg #[.int .i64 xi, .int .i64 xd, .int .u32 xa, .int .i64 xb, .int .i64 xp, .int .i64 xo] := hargs 0 _ rfl
  have s0_1 : a0.eval (.tmp 1) = .agg #[.int .i64 yi, .int .i64 yd, .int .u32 ya, .int .i64 yb, .int .i64 yp, .int .i64 yo] := hargs 1 _ rfl
  have x0 := Touch.refl NoF w
  refine wp_seq ?_
  refine seq_begin ?_
  refine sbox z0 rfl s0_0 ?_; intro b1 w1 a1 t1 g1 hb1 u1 z1
  have yb1_2 := Nat.le_trans (Touch.size x0) g1
  refine sbox z1 rfl ((u1.past 1 rfl).trans s0_1) ?_; intro b3 w3 a3 t3 g3 hb3 u3 z3
  have n4_b1_b3 := ne_lt (lt_of hb1) g3
  have x6 := (Touch.trans x0 (Ext.touch t1))
  have yb3_5 := Nat.le_trans (Touch.size x6) g3
  refine sp z3 rfl rfl (ex_assign rfl) ?_; intro a7 u7 z7
  have d8 := (u7.defs.trans (u3.defs.trans (u1.defs.trans d0)))
  refine seq_end ?_
  refine then_norm ?_
  refine wp_seq_k fun K9 hK9 => ?_
  have s10_2 : a1.eval (.tmp 2) = .pointer (some ⟨b1, 0, none⟩) := (u1.here _ rfl)
  have s11_2 := ((u7.past 2 rfl).trans ((u3.past 2 rfl).trans s10_2))
  have hb1_12 := (Ext.keep t3 hb1)
  have s13_3 : a3.eval (.tmp 3) = .pointer (some ⟨b3, 0, none⟩) := (u3.here _ rfl)
  have s14_3 := ((u7.past 3 rfl).trans s13_3)
  refine rgs mixed 34 [.eq (.pointer (some ⟨b1, 4, none⟩)), .eq (.int .i64 xp), .eq (.pointer (some ⟨b3, 4, none⟩)), .eq (.int .i64 yp), .eq (.bool (decide (xp ≠ yp)))] [[(2, none)], [(5, some 0)], [(3, none)], [(7, some 2)], [(6, some 1), (8, some 3)]] d8 z7 (by kernel_rfl) ⟨Ov rfl rfl fun _ _ T ⟨k2, _⟩ => ex_fieldAddr (k2.trans s11_2) (fa_89_3 _ _ _),
    Ov rfl rfl fun _ _ T ⟨k5, _⟩ => ex_load k5 (Try.isAgg3 _) (cell_of (Ext.keep T.ext hb1_12) rfl),
    Ov rfl rfl fun _ _ T ⟨k3, _⟩ => ex_fieldAddr (k3.trans s14_3) (fa_89_3 _ _ _),
    Ov rfl rfl fun _ _ T ⟨k7, _⟩ => ex_load k7 (Try.isAgg3 _) (cell_of (Ext.keep T.ext hb3) rfl),
    Ov rfl rfl fun _ _ T ⟨k6, k8, _⟩ => ex_neq k6 k8,
    trivial⟩ ?_
  intro a15 w15 d15 z15 t15 e15 q15
  by_cases c16 : xp ≠ yp
  · have y16 := decide_eq_true c16
    have s17_9 : a15.eval (.tmp 9) = .bool (decide (xp ≠ yp)) := e15.2.2.2.2.1
    refine wp_cond_true (s17_9.trans (by rw [y16])) ?_
    have s18_2 := ((q15 2 rfl).trans s11_2)
    have hb1_19 := (Ext.keep t15 hb1_12)
    have s20_3 := ((q15 3 rfl).trans s14_3)
    have hb3_21 := (Ext.keep t15 hb3)
    refine rgs mixed 34 [.eq (.pointer (some ⟨b1, 4, none⟩)), .eq (.int .i64 xp), .eq (.pointer (some ⟨b3, 4, none⟩)), .eq (.int .i64 yp), .eq (.bool (decide (yp < xp))), .eq (.bool (decide (yp < xp)))] [[(2, none)], [(10, some 0)], [(3, none)], [(12, some 2)], [(11, some 1), (13, some 3)], [(14, some 4)]] d15 z15 (by kernel_rfl) ⟨Ov rfl rfl fun _ _ T ⟨k2, _⟩ => ex_fieldAddr (k2.trans s18_2) (fa_89_3 _ _ _),
      Ov rfl rfl fun _ _ T ⟨k10, _⟩ => ex_load k10 (Try.isAgg3 _) (cell_of (Ext.keep T.ext hb1_19) rfl),
      Ov rfl rfl fun _ _ T ⟨k3, _⟩ => ex_fieldAddr (k3.trans s20_3) (fa_89_3 _ _ _),
      Ov rfl rfl fun _ _ T ⟨k12, _⟩ => ex_load k12 (Try.isAgg3 _) (cell_of (Ext.keep T.ext hb3_21) rfl),
      Ov rfl rfl fun _ _ T ⟨k11, k13, _⟩ => ex_gtr k11 k13,
      Ov rfl rfl fun _ _ T ⟨k14, _⟩ => ex_assign k14,
      trivial⟩ ?_
    intro a22 w22 d22 z22 t22 e22 q22
    refine wp_ret ?_
    have s23_4 : a22.eval (.tmp 4) = .bool (decide (yp < xp)) := e22.2.2.2.2.2.1
    repeat (first | (with_reducible refine then_ret ?_) | (with_reducible refine block_ret ?_))
    refine retl (rs := [.tmp 4]) Try.results135 ⟨s23_4, trivial⟩ d22 ?_
    have x24 := (Touch.trans (Touch.trans (Touch.trans x6 (Ext.touch t3)) (Ext.touch t15)) (Ext.touch t22))
    exact ⟨by unfold ahead; rw [if_pos c16], x24.ext⟩
  · have y16 := decide_eq_false c16
    have s25_9 : a15.eval (.tmp 9) = .bool (decide (xp ≠ yp)) := e15.2.2.2.2.1
    refine wp_cond_false (s25_9.trans (by rw [y16])) ?_
    refine wp_skip ?_
    repeat (with_reducible refine block_norm ?_)
    refine hK9 _ _ ?_
    refine wp_seq_k fun K26 hK26 => ?_
    have s27_2 := ((q15 2 rfl).trans s11_2)
    have hb1_28 := (Ext.keep t15 hb1_12)
    have s29_3 := ((q15 3 rfl).trans s14_3)
    have hb3_30 := (Ext.keep t15 hb3)
    refine rgs mixed 34 [.eq (.pointer (some ⟨b1, 2, none⟩)), .eq (.pointer (some ⟨b1, 3, none⟩)), .eq (.int .i64 xb), .eq (.pointer (some ⟨b3, 2, none⟩)), .eq (.pointer (some ⟨b3, 3, none⟩)), .eq (.int .i64 yb), .eq (.bool (decide (xb ≠ yb)))] [[(2, none)], [(15, some 0)], [(16, some 1)], [(3, none)], [(18, some 3)], [(19, some 4)], [(17, some 2), (20, some 5)]] d15 z15 (by kernel_rfl) ⟨Ov rfl rfl fun _ _ T ⟨k2, _⟩ => ex_fieldAddr (k2.trans s27_2) (fa_89_2 _ _ _),
      Ov rfl rfl fun _ _ T ⟨k15, _⟩ => ex_fieldAddr k15 (fa_24_1 _ _ _),
      Ov rfl rfl fun _ _ T ⟨k16, _⟩ => ex_load k16 (Try.isAgg3 _) (cell_of (Ext.keep T.ext hb1_28) rfl),
      Ov rfl rfl fun _ _ T ⟨k3, _⟩ => ex_fieldAddr (k3.trans s29_3) (fa_89_2 _ _ _),
      Ov rfl rfl fun _ _ T ⟨k18, _⟩ => ex_fieldAddr k18 (fa_24_1 _ _ _),
      Ov rfl rfl fun _ _ T ⟨k19, _⟩ => ex_load k19 (Try.isAgg3 _) (cell_of (Ext.keep T.ext hb3_30) rfl),
      Ov rfl rfl fun _ _ T ⟨k17, k20, _⟩ => ex_neq k17 k20,
      trivial⟩ ?_
    intro a31 w31 d31 z31 t31 e31 q31
    by_cases c32 : xb ≠ yb
    · have y32 := decide_eq_true c32
      have s33_21 : a31.eval (.tmp 21) = .bool (decide (xb ≠ yb)) := e31.2.2.2.2.2.2.1
      refine wp_cond_true (s33_21.trans (by rw [y32])) ?_
      have s34_2 := ((q31 2 rfl).trans s27_2)
      have hb1_35 := (Ext.keep t31 hb1_28)
      have s36_3 := ((q31 3 rfl).trans s29_3)
      have hb3_37 := (Ext.keep t31 hb3_30)
      refine rgs mixed 34 [.eq (.pointer (some ⟨b1, 2, none⟩)), .eq (.pointer (some ⟨b1, 3, none⟩)), .eq (.int .i64 xb), .eq (.pointer (some ⟨b3, 2, none⟩)), .eq (.pointer (some ⟨b3, 3, none⟩)), .eq (.int .i64 yb), .eq (.bool (decide (yb < xb))), .eq (.bool (decide (yb < xb)))] [[(2, none)], [(22, some 0)], [(23, some 1)], [(3, none)], [(25, some 3)], [(26, some 4)], [(24, some 2), (27, some 5)], [(28, some 6)]] d31 z31 (by kernel_rfl) ⟨Ov rfl rfl fun _ _ T ⟨k2, _⟩ => ex_fieldAddr (k2.trans s34_2) (fa_89_2 _ _ _),
        Ov rfl rfl fun _ _ T ⟨k22, _⟩ => ex_fieldAddr k22 (fa_24_1 _ _ _),
        Ov rfl rfl fun _ _ T ⟨k23, _⟩ => ex_load k23 (Try.isAgg3 _) (cell_of (Ext.keep T.ext hb1_35) rfl),
        Ov rfl rfl fun _ _ T ⟨k3, _⟩ => ex_fieldAddr (k3.trans s36_3) (fa_89_2 _ _ _),
        Ov rfl rfl fun _ _ T ⟨k25, _⟩ => ex_fieldAddr k25 (fa_24_1 _ _ _),
        Ov rfl rfl fun _ _ T ⟨k26, _⟩ => ex_load k26 (Try.isAgg3 _) (cell_of (Ext.keep T.ext hb3_37) rfl),
        Ov rfl rfl fun _ _ T ⟨k24, k27, _⟩ => ex_gtr k24 k27,
        Ov rfl rfl fun _ _ T ⟨k28, _⟩ => ex_assign k28,
        trivial⟩ ?_
      intro a38 w38 d38 z38 t38 e38 q38
      refine wp_ret ?_
      have s39_4 : a38.eval (.tmp 4) = .bool (decide (yb < xb)) := e38.2.2.2.2.2.2.2.1
      repeat (first | (with_reducible refine then_ret ?_) | (with_reducible refine block_ret ?_))
      refine retl (rs := [.tmp 4]) Try.results135 ⟨s39_4, trivial⟩ d38 ?_
      have x40 := (Touch.trans (Touch.trans (Touch.trans (Touch.trans x6 (Ext.touch t3)) (Ext.touch t15)) (Ext.touch t31)) (Ext.touch t38))
      exact ⟨by unfold ahead; rw [if_neg c16, if_pos c32], x40.ext⟩
    · have y32 := decide_eq_false c32
      have s41_21 : a31.eval (.tmp 21) = .bool (decide (xb ≠ yb)) := e31.2.2.2.2.2.2.1
      refine wp_cond_false (s41_21.trans (by rw [y32])) ?_
      refine wp_skip ?_
      repeat (with_reducible refine block_norm ?_)
      refine hK26 _ _ ?_
      have s42_2 := ((q31 2 rfl).trans s27_2)
      have hb1_43 := (Ext.keep t31 hb1_28)
      have s44_3 := ((q31 3 rfl).trans s29_3)
      have hb3_45 := (Ext.keep t31 hb3_30)
      refine rgs mixed 34 [.eq (.pointer (some ⟨b1, 0, none⟩)), .eq (.int .i64 xi), .eq (.pointer (some ⟨b3, 0, none⟩)), .eq (.int .i64 yi), .eq (.bool (decide (xi < yi))), .eq (.bool (decide (xi < yi)))] [[(2, none)], [(29, some 0)], [(3, none)], [(31, some 2)], [(30, some 1), (32, some 3)], [(33, some 4)]] d31 z31 (by kernel_rfl) ⟨Ov rfl rfl fun _ _ T ⟨k2, _⟩ => ex_fieldAddr (k2.trans s42_2) (fa_89_0 _ _ _),
        Ov rfl rfl fun _ _ T ⟨k29, _⟩ => ex_load k29 (Try.isAgg3 _) (cell_of (Ext.keep T.ext hb1_43) rfl),
        Ov rfl rfl fun _ _ T ⟨k3, _⟩ => ex_fieldAddr (k3.trans s44_3) (fa_89_0 _ _ _),
        Ov rfl rfl fun _ _ T ⟨k31, _⟩ => ex_load k31 (Try.isAgg3 _) (cell_of (Ext.keep T.ext hb3_45) rfl),
        Ov rfl rfl fun _ _ T ⟨k30, k32, _⟩ => ex_lss k30 k32,
        Ov rfl rfl fun _ _ T ⟨k33, _⟩ => ex_assign k33,
        trivial⟩ ?_
      intro a46 w46 d46 z46 t46 e46 q46
      refine wp_ret ?_
      have s47_4 : a46.eval (.tmp 4) = .bool (decide (xi < yi)) := e46.2.2.2.2.2.1
      repeat (first | (with_reducible refine then_ret ?_) | (with_reducible refine block_ret ?_))
      refine retl (rs := [.tmp 4]) Try.results135 ⟨s47_4, trivial⟩ d46 ?_
      have x48 := (Touch.trans (Touch.trans (Touch.trans (Touch.trans x6 (Ext.touch t3)) (Ext.touch t15)) (Ext.touch t31)) (Ext.touch t46))
      exact ⟨by unfold ahead; rw [if_neg c16, if_neg c32], x48.ext⟩

def nan (n : Int) : Bool := decide (n ≠ n)
set_option maxRecDepth 100000 in
set_option maxHeartbeats 4000000 in
theorem c_nan (n : Int) (w : World) : Calls Try.prog 158 #[.int .i64 n] w fun e w' => e = .returned (.bool (nan n)) ∧ Ext w w' := by
  refine enter 6 Try.ntmps158 Try.func158 rfl (Nat.le_of_ble_eq_true rfl) fun a0 d0 z0 hargs => ?_
  have s0_0 : a0.eval (.tmp 0) = .int .i64 n := hargs 0 _ rfl
  have x0 := Touch.refl NoF w
  refine rgs mixed 6 [.eq (.bool false)] [[]] d0 z0 (by kernel_rfl) ⟨Ov rfl rfl fun _ _ T _ => ex_assign rfl, trivial⟩ ?_
  intro a1 w1 d1 z1 t1 e1 q1
  have s2_0 := ((q1 0 rfl).trans s0_0)
  refine rgs mixed 6 [.eq (.int .i64 n), .eq (.int .i64 n), .eq (.bool (decide (n ≠ n))), .eq (.bool (decide (n ≠ n)))] [[(0, none)], [(0, none)], [(3, some 0), (4, some 1)], [(5, some 2)]] d1 z1 (by kernel_rfl) ⟨Ov rfl rfl fun _ _ T ⟨k0, _⟩ => ex_move (k0.trans s2_0),
    Ov rfl rfl fun _ _ T ⟨k0, _⟩ => ex_move (k0.trans s2_0),
    Ov rfl rfl fun _ _ T ⟨k3, k4, _⟩ => ex_neq k3 k4,
    Ov rfl rfl fun _ _ T ⟨k5, _⟩ => ex_assign k5,
    trivial⟩ ?_
  intro a3 w3 d3 z3 t3 e3 q3
  refine wp_ret ?_
  have s4_2 : a3.eval (.tmp 2) = .bool (decide (n ≠ n)) := e3.2.2.2.1
  repeat (first | (with_reducible refine then_ret ?_) | (with_reducible refine block_ret ?_))
  refine retl (rs := [.tmp 2]) Try.results158 ⟨s4_2, trivial⟩ d3 ?_
  have x5 := (Touch.trans (Touch.trans x0 (Ext.touch t1)) (Ext.touch t3))
  exact ⟨by unfold nan; rfl, x5.ext⟩

def compare (m : Int) (n : Int) : Int := if (nan m) = true then if (nan n) = true then 0 else (-1) else if (nan n) = true then 1 else if m < n then (-1) else if n < m then 1 else 0
set_option maxRecDepth 100000 in
set_option maxHeartbeats 4000000 in
theorem c_compare (m : Int) (n : Int) (w : World) : Calls Try.prog 139 #[.int .i64 m, .int .i64 n] w fun e w' => e = .returned (.int .i64 (compare m n)) ∧ Ext w w' := by
  refine enter 20 Try.ntmps139 Try.func139 rfl (Nat.le_of_ble_eq_true rfl) fun a0 d0 z0 hargs => ?_
  have s0_0 : a0.eval (.tmp 0) = .int .i64 m := hargs 0 _ rfl
  have s0_1 : a0.eval (.tmp 1) = .int .i64 n := hargs 1 _ rfl
  have x0 := Touch.refl NoF w
  refine rgs mixed 20 [.eq (.int .i64 0)] [[]] d0 z0 (by kernel_rfl) ⟨Ov rfl rfl fun _ _ T _ => ex_assign rfl, trivial⟩ ?_
  intro a1 w1 d1 z1 t1 e1 q1
  refine wp_seq ?_
  refine seq_begin ?_
  refine sp z1 rfl rfl (ex_move ((q1 0 rfl).trans s0_0)) ?_; intro a2 u2 z2
  refine scx z2 rfl rfl (exl_call Try.func158 rfl rfl (cons_ops (u2.here _ rfl) nil_ops)) (c_nan m  _) ?_; intro w3 a3 t3 u3 z3
  refine sp z3 rfl rfl (ex_assign (u3.here _ rfl)) ?_; intro a4 u4 z4
  have d5 := (u4.defs.trans (u3.defs.trans (u2.defs.trans d1)))
  refine seq_end ?_
  refine then_norm ?_
  refine wp_seq ?_
  refine seq_begin ?_
  refine sp z4 rfl rfl (ex_move ((u4.past 1 rfl).trans ((u3.past 1 rfl).trans ((u2.past 1 rfl).trans ((q1 1 rfl).trans s0_1))))) ?_; intro a6 u6 z6
  refine scx z6 rfl rfl (exl_call Try.func158 rfl rfl (cons_ops (u6.here _ rfl) nil_ops)) (c_nan n  _) ?_; intro w7 a7 t7 u7 z7
  refine sp z7 rfl rfl (ex_assign (u7.here _ rfl)) ?_; intro a8 u8 z8
  have d9 := (u8.defs.trans (u7.defs.trans (u6.defs.trans d5)))
  refine seq_end ?_
  refine then_norm ?_
  refine wp_seq_k fun K10 hK10 => ?_
  have s11_5 : a4.eval (.tmp 5) = .bool (nan m) := (u4.here _ rfl)
  have s12_5 := ((u8.past 5 rfl).trans ((u7.past 5 rfl).trans ((u6.past 5 rfl).trans s11_5)))
  refine rgs mixed 20 [.eq (.bool (nan m))] [[(5, none)]] d9 z8 (by kernel_rfl) ⟨Ov rfl rfl fun _ _ T ⟨k5, _⟩ => ex_move (k5.trans s12_5), trivial⟩ ?_
  intro a13 w13 d13 z13 t13 e13 q13
  rcases Bool.eq_false_or_eq_true ((nan m)) with y14 | y14
  · have c14 := y14
    have s15_11 : a13.eval (.tmp 11) = .bool (nan m) := e13.1
    refine wp_cond_true (s15_11.trans (by rw [y14])) ?_
    refine wp_seq_k fun K16 hK16 => ?_
    have s17_6 : a8.eval (.tmp 6) = .bool (nan n) := (u8.here _ rfl)
    have s18_6 := ((q13 6 rfl).trans s17_6)
    refine rgs mixed 20 [.eq (.bool (nan n))] [[(6, none)]] d13 z13 (by kernel_rfl) ⟨Ov rfl rfl fun _ _ T ⟨k6, _⟩ => ex_move (k6.trans s18_6), trivial⟩ ?_
    intro a19 w19 d19 z19 t19 e19 q19
    rcases Bool.eq_false_or_eq_true ((nan n)) with y20 | y20
    · have c20 := y20
      have s21_12 : a19.eval (.tmp 12) = .bool (nan n) := e19.1
      refine wp_cond_true (s21_12.trans (by rw [y20])) ?_
      refine rgs mixed 20 [.eq (.int .i64 0)] [[]] d19 z19 (by kernel_rfl) ⟨Ov rfl rfl fun _ _ T _ => ex_assign rfl, trivial⟩ ?_
      intro a22 w22 d22 z22 t22 e22 q22
      refine wp_ret ?_
      have s23_4 : a22.eval (.tmp 4) = .int .i64 0 := e22.1
      repeat (first | (with_reducible refine then_ret ?_) | (with_reducible refine block_ret ?_))
      refine retl (rs := [.tmp 4]) Try.results139 ⟨s23_4, trivial⟩ d22 ?_
      have x24 := (Touch.trans (Touch.trans (Touch.trans (Touch.trans (Touch.trans (Touch.trans x0 (Ext.touch t1)) (Ext.touch t3)) (Ext.touch t7)) (Ext.touch t13)) (Ext.touch t19)) (Ext.touch t22))
      exact ⟨by unfold compare; rw [if_pos y14, if_pos y20], x24.ext⟩
    · have c20 := y20
      have s25_12 : a19.eval (.tmp 12) = .bool (nan n) := e19.1
      refine wp_cond_false (s25_12.trans (by rw [y20])) ?_
      refine wp_skip ?_
      repeat (with_reducible refine block_norm ?_)
      refine hK16 _ _ ?_
      refine rgs mixed 20 [.eq (.int .i64 (-1))] [[]] d19 z19 (by kernel_rfl) ⟨Ov rfl rfl fun _ _ T _ => ex_assign rfl, trivial⟩ ?_
      intro a26 w26 d26 z26 t26 e26 q26
      refine wp_ret ?_
      have s27_4 : a26.eval (.tmp 4) = .int .i64 (-1) := e26.1
      repeat (first | (with_reducible refine then_ret ?_) | (with_reducible refine block_ret ?_))
      refine retl (rs := [.tmp 4]) Try.results139 ⟨s27_4, trivial⟩ d26 ?_
      have x28 := (Touch.trans (Touch.trans (Touch.trans (Touch.trans (Touch.trans (Touch.trans x0 (Ext.touch t1)) (Ext.touch t3)) (Ext.touch t7)) (Ext.touch t13)) (Ext.touch t19)) (Ext.touch t26))
      exact ⟨by unfold compare; rw [if_pos y14, if_neg (by rw [y20]; decide)], x28.ext⟩
  · have c14 := y14
    have s29_11 : a13.eval (.tmp 11) = .bool (nan m) := e13.1
    refine wp_cond_false (s29_11.trans (by rw [y14])) ?_
    refine wp_skip ?_
    repeat (with_reducible refine block_norm ?_)
    refine hK10 _ _ ?_
    refine wp_seq_k fun K30 hK30 => ?_
    have s31_6 : a8.eval (.tmp 6) = .bool (nan n) := (u8.here _ rfl)
    have s32_6 := ((q13 6 rfl).trans s31_6)
    refine rgs mixed 20 [.eq (.bool (nan n))] [[(6, none)]] d13 z13 (by kernel_rfl) ⟨Ov rfl rfl fun _ _ T ⟨k6, _⟩ => ex_move (k6.trans s32_6), trivial⟩ ?_
    intro a33 w33 d33 z33 t33 e33 q33
    rcases Bool.eq_false_or_eq_true ((nan n)) with y34 | y34
    · have c34 := y34
      have s35_13 : a33.eval (.tmp 13) = .bool (nan n) := e33.1
      refine wp_cond_true (s35_13.trans (by rw [y34])) ?_
      refine rgs mixed 20 [.eq (.int .i64 1)] [[]] d33 z33 (by kernel_rfl) ⟨Ov rfl rfl fun _ _ T _ => ex_assign rfl, trivial⟩ ?_
      intro a36 w36 d36 z36 t36 e36 q36
      refine wp_ret ?_
      have s37_4 : a36.eval (.tmp 4) = .int .i64 1 := e36.1
      repeat (first | (with_reducible refine then_ret ?_) | (with_reducible refine block_ret ?_))
      refine retl (rs := [.tmp 4]) Try.results139 ⟨s37_4, trivial⟩ d36 ?_
      have x38 := (Touch.trans (Touch.trans (Touch.trans (Touch.trans (Touch.trans (Touch.trans x0 (Ext.touch t1)) (Ext.touch t3)) (Ext.touch t7)) (Ext.touch t13)) (Ext.touch t33)) (Ext.touch t36))
      exact ⟨by unfold compare; rw [if_neg (by rw [y14]; decide), if_pos y34], x38.ext⟩
    · have c34 := y34
      have s39_13 : a33.eval (.tmp 13) = .bool (nan n) := e33.1
      refine wp_cond_false (s39_13.trans (by rw [y34])) ?_
      refine wp_skip ?_
      repeat (with_reducible refine block_norm ?_)
      refine hK30 _ _ ?_
      refine wp_seq_k fun K40 hK40 => ?_
      have s41_0 := ((q33 0 rfl).trans ((q13 0 rfl).trans ((u8.past 0 rfl).trans ((u7.past 0 rfl).trans ((u6.past 0 rfl).trans ((u4.past 0 rfl).trans ((u3.past 0 rfl).trans ((u2.past 0 rfl).trans ((q1 0 rfl).trans s0_0)))))))))
      have s42_1 := ((q33 1 rfl).trans ((q13 1 rfl).trans ((u8.past 1 rfl).trans ((u7.past 1 rfl).trans ((u6.past 1 rfl).trans ((u4.past 1 rfl).trans ((u3.past 1 rfl).trans ((u2.past 1 rfl).trans ((q1 1 rfl).trans s0_1)))))))))
      refine rgs mixed 20 [.eq (.int .i64 m), .eq (.int .i64 n), .eq (.bool (decide (m < n)))] [[(0, none)], [(1, none)], [(14, some 0), (15, some 1)]] d33 z33 (by kernel_rfl) ⟨Ov rfl rfl fun _ _ T ⟨k0, _⟩ => ex_move (k0.trans s41_0), Ov rfl rfl fun _ _ T ⟨k1, _⟩ => ex_move (k1.trans s42_1), Ov rfl rfl fun _ _ T ⟨k14, k15, _⟩ => ex_lss k14 k15, trivial⟩ ?_
      intro a43 w43 d43 z43 t43 e43 q43
      by_cases c44 : m < n
      · have y44 := decide_eq_true c44
        have s45_16 : a43.eval (.tmp 16) = .bool (decide (m < n)) := e43.2.2.1
        refine wp_cond_true (s45_16.trans (by rw [y44])) ?_
        refine rgs mixed 20 [.eq (.int .i64 (-1))] [[]] d43 z43 (by kernel_rfl) ⟨Ov rfl rfl fun _ _ T _ => ex_assign rfl, trivial⟩ ?_
        intro a46 w46 d46 z46 t46 e46 q46
        refine wp_ret ?_
        have s47_4 : a46.eval (.tmp 4) = .int .i64 (-1) := e46.1
        repeat (first | (with_reducible refine then_ret ?_) | (with_reducible refine block_ret ?_))
        refine retl (rs := [.tmp 4]) Try.results139 ⟨s47_4, trivial⟩ d46 ?_
        have x48 := (Touch.trans (Touch.trans (Touch.trans (Touch.trans (Touch.trans (Touch.trans (Touch.trans x0 (Ext.touch t1)) (Ext.touch t3)) (Ext.touch t7)) (Ext.touch t13)) (Ext.touch t33)) (Ext.touch t43)) (Ext.touch t46))
        exact ⟨by unfold compare; rw [if_neg (by rw [y14]; decide), if_neg (by rw [y34]; decide), if_pos c44], x48.ext⟩
      · have y44 := decide_eq_false c44
        have s49_16 : a43.eval (.tmp 16) = .bool (decide (m < n)) := e43.2.2.1
        refine wp_cond_false (s49_16.trans (by rw [y44])) ?_
        refine wp_skip ?_
        repeat (with_reducible refine block_norm ?_)
        refine hK40 _ _ ?_
        refine wp_seq_k fun K50 hK50 => ?_
        have s51_0 := ((q43 0 rfl).trans s41_0)
        have s52_1 := ((q43 1 rfl).trans s42_1)
        refine rgs mixed 20 [.eq (.int .i64 m), .eq (.int .i64 n), .eq (.bool (decide (n < m)))] [[(0, none)], [(1, none)], [(17, some 0), (18, some 1)]] d43 z43 (by kernel_rfl) ⟨Ov rfl rfl fun _ _ T ⟨k0, _⟩ => ex_move (k0.trans s51_0), Ov rfl rfl fun _ _ T ⟨k1, _⟩ => ex_move (k1.trans s52_1), Ov rfl rfl fun _ _ T ⟨k17, k18, _⟩ => ex_gtr k17 k18, trivial⟩ ?_
        intro a53 w53 d53 z53 t53 e53 q53
        by_cases c54 : n < m
        · have y54 := decide_eq_true c54
          have s55_19 : a53.eval (.tmp 19) = .bool (decide (n < m)) := e53.2.2.1
          refine wp_cond_true (s55_19.trans (by rw [y54])) ?_
          refine rgs mixed 20 [.eq (.int .i64 1)] [[]] d53 z53 (by kernel_rfl) ⟨Ov rfl rfl fun _ _ T _ => ex_assign rfl, trivial⟩ ?_
          intro a56 w56 d56 z56 t56 e56 q56
          refine wp_ret ?_
          have s57_4 : a56.eval (.tmp 4) = .int .i64 1 := e56.1
          repeat (first | (with_reducible refine then_ret ?_) | (with_reducible refine block_ret ?_))
          refine retl (rs := [.tmp 4]) Try.results139 ⟨s57_4, trivial⟩ d56 ?_
          have x58 := (Touch.trans (Touch.trans (Touch.trans (Touch.trans (Touch.trans (Touch.trans (Touch.trans (Touch.trans x0 (Ext.touch t1)) (Ext.touch t3)) (Ext.touch t7)) (Ext.touch t13)) (Ext.touch t33)) (Ext.touch t43)) (Ext.touch t53)) (Ext.touch t56))
          exact ⟨by unfold compare; rw [if_neg (by rw [y14]; decide), if_neg (by rw [y34]; decide), if_neg c44, if_pos c54], x58.ext⟩
        · have y54 := decide_eq_false c54
          have s59_19 : a53.eval (.tmp 19) = .bool (decide (n < m)) := e53.2.2.1
          refine wp_cond_false (s59_19.trans (by rw [y54])) ?_
          refine wp_skip ?_
          repeat (with_reducible refine block_norm ?_)
          refine hK50 _ _ ?_
          refine rgs mixed 20 [.eq (.int .i64 0)] [[]] d53 z53 (by kernel_rfl) ⟨Ov rfl rfl fun _ _ T _ => ex_assign rfl, trivial⟩ ?_
          intro a60 w60 d60 z60 t60 e60 q60
          refine wp_ret ?_
          have s61_4 : a60.eval (.tmp 4) = .int .i64 0 := e60.1
          repeat (first | (with_reducible refine then_ret ?_) | (with_reducible refine block_ret ?_))
          refine retl (rs := [.tmp 4]) Try.results139 ⟨s61_4, trivial⟩ d60 ?_
          have x62 := (Touch.trans (Touch.trans (Touch.trans (Touch.trans (Touch.trans (Touch.trans (Touch.trans (Touch.trans x0 (Ext.touch t1)) (Ext.touch t3)) (Ext.touch t7)) (Ext.touch t13)) (Ext.touch t33)) (Ext.touch t43)) (Ext.touch t53)) (Ext.touch t60))
          exact ⟨by unfold compare; rw [if_neg (by rw [y14]; decide), if_neg (by rw [y34]; decide), if_neg c44, if_neg c54], x62.ext⟩

def tbit (x : Int) (i : Int) : Int := ibits .and .u32 (x.fdiv (2 ^ min (31 - i).toNat IntKind.u32.bits)) 1
set_option maxRecDepth 100000 in
set_option maxHeartbeats 4000000 in
theorem c_tbit (x : Int) (i : Int) (hx : 0 ≤ x ∧ x ≤ 4294967295)(hi : 0 ≤ i ∧ i ≤ 31) (w : World) : Calls Try.prog 146 #[.int .u32 x, .int .i64 i] w fun e w' => e = .returned (.int .i64 (tbit x i)) ∧ Ext w w' := by
  refine enter 11 Try.ntmps146 Try.func146 rfl (Nat.le_of_ble_eq_true rfl) fun a0 d0 z0 hargs => ?_
  have s0_0 : a0.eval (.tmp 0) = .int .u32 x := hargs 0 _ rfl
  have s0_1 : a0.eval (.tmp 1) = .int .i64 i := hargs 1 _ rfl
  have x0 := Touch.refl NoF w
  refine rgs mixed 11 [.eq (.int .i64 0)] [[]] d0 z0 (by kernel_rfl) ⟨Ov rfl rfl fun _ _ T _ => ex_assign rfl, trivial⟩ ?_
  intro a1 w1 d1 z1 t1 e1 q1
  have s2_0 := ((q1 0 rfl).trans s0_0)
  have s3_1 := ((q1 1 rfl).trans s0_1)
  refine rgs mixed 11 [.eq (.int .u32 x), .eq (.int .i64 i), .eq (.int .i64 (31 - i)), .eq (.int .u32 (x.fdiv (2 ^ min (31 - i).toNat IntKind.u32.bits))), .eq (.int .u32 (ibits .and .u32 (x.fdiv (2 ^ min (31 - i).toNat IntKind.u32.bits)) 1)), .eq (.int .i64 (ibits .and .u32 (x.fdiv (2 ^ min (31 - i).toNat IntKind.u32.bits)) 1)), .eq (.int .i64 (ibits .and .u32 (x.fdiv (2 ^ min (31 - i).toNat IntKind.u32.bits)) 1))] [[(0, none)], [(1, none)], [(6, some 1)], [(5, some 0), (7, some 2)], [(8, some 3)], [(9, some 4)], [(10, some 5)]] d1 z1 (by kernel_rfl) ⟨Ov rfl rfl fun _ _ T ⟨k0, _⟩ => ex_move (k0.trans s2_0),
    Ov rfl rfl fun _ _ T ⟨k1, _⟩ => ex_move (k1.trans s3_1),
    Ov rfl rfl fun _ _ T ⟨k6, _⟩ => ex_sub64 rfl k6 (by omega),
    Ov rfl rfl fun _ _ T ⟨k5, k7, _⟩ => ex_shr k5 k7 (by omega),
    Ov rfl rfl fun _ _ T ⟨k8, _⟩ => ex_and k8 rfl,
    Ov rfl rfl fun _ _ T ⟨k9, _⟩ => ex_convert k9 (cvn_22_3 (by have := ibits_u32 .and (x.fdiv (2 ^ min (31 - i).toNat IntKind.u32.bits)) 1; omega)),
    Ov rfl rfl fun _ _ T ⟨k10, _⟩ => ex_assign k10,
    trivial⟩ ?_
  intro a4 w4 d4 z4 t4 e4 q4
  refine wp_ret ?_
  have s5_4 : a4.eval (.tmp 4) = .int .i64 (ibits .and .u32 (x.fdiv (2 ^ min (31 - i).toNat IntKind.u32.bits)) 1) := e4.2.2.2.2.2.2.1
  repeat (first | (with_reducible refine then_ret ?_) | (with_reducible refine block_ret ?_))
  refine retl (rs := [.tmp 4]) Try.results146 ⟨s5_4, trivial⟩ d4 ?_
  have x6 := (Touch.trans (Touch.trans x0 (Ext.touch t1)) (Ext.touch t4))
  exact ⟨by unfold tbit; rfl, x6.ext⟩

def bounds (ri : Int) (rd : Int) (ra : Int) (rb : Int) (rp : Int) (ro : Int) : Int := if ((((decide (ri < 0)) || (decide (1048576 < ri))) || (decide (rp < 0))) || (decide (1000 < rp))) = true then 5 else 0
set_option maxRecDepth 100000 in
set_option maxHeartbeats 4000000 in
theorem c_bounds (ri : Int) (rd : Int) (ra : Int) (rb : Int) (rp : Int) (ro : Int) (w : World) : Calls Try.prog 81 #[.agg #[.int .i64 ri, .int .i64 rd, .int .u32 ra, .int .i64 rb, .int .i64 rp, .int .i64 ro]] w fun e w' => e = .returned (.int .i64 (bounds ri rd ra rb rp ro)) ∧ Ext w w' := by
  refine enter 21 Try.ntmps81 Try.func81 rfl (Nat.le_of_ble_eq_true rfl) fun a0 d0 z0 hargs => ?_
  have s0_0 : a0.eval (.tmp 0) = .agg #[.int .i64 ri, .int .i64 rd, .int .u32 ra, .int .i64 rb, .int .i64 rp, .int .i64 ro] := hargs 0 _ rfl
  have x0 := Touch.refl NoF w
  refine wp_seq ?_
  refine seq_begin ?_
  refine sbox z0 rfl s0_0 ?_; intro b1 w1 a1 t1 g1 hb1 u1 z1
  have yb1_2 := Nat.le_trans (Touch.size x0) g1
  refine sp z1 rfl rfl (ex_assign rfl) ?_; intro a3 u3 z3
  have d4 := (u3.defs.trans (u1.defs.trans d0))
  refine seq_end ?_
  refine then_norm ?_
  refine wp_seq_k fun K5 hK5 => ?_
  have s6_1 : a1.eval (.tmp 1) = .pointer (some ⟨b1, 0, none⟩) := (u1.here _ rfl)
  have s7_1 := ((u3.past 1 rfl).trans s6_1)
  refine rgs mixed 21 [.eq (.pointer (some ⟨b1, 0, none⟩)), .eq (.int .i64 ri), .eq (.bool (decide (ri < 0))), .eq (.bool (decide (ri < 0))), .eq (if (decide (ri < 0)) = false then .pointer (some ⟨b1, 0, none⟩) else undef), .eq (if (decide (ri < 0)) = false then .int .i64 ri else undef), .eq (if (decide (ri < 0)) = false then .bool (decide (1048576 < ri)) else undef), .eq (.bool ((decide (ri < 0)) || (decide (1048576 < ri)))), .eq (.bool ((decide (ri < 0)) || (decide (1048576 < ri)))), .eq (if ((decide (ri < 0)) || (decide (1048576 < ri))) = false then .pointer (some ⟨b1, 4, none⟩) else undef), .eq (if ((decide (ri < 0)) || (decide (1048576 < ri))) = false then .int .i64 rp else undef), .eq (if ((decide (ri < 0)) || (decide (1048576 < ri))) = false then .bool (decide (rp < 0)) else undef), .eq (.bool (((decide (ri < 0)) || (decide (1048576 < ri))) || (decide (rp < 0)))), .eq (.bool (((decide (ri < 0)) || (decide (1048576 < ri))) || (decide (rp < 0)))), .eq (if (((decide (ri < 0)) || (decide (1048576 < ri))) || (decide (rp < 0))) = false then .pointer (some ⟨b1, 4, none⟩) else undef), .eq (if (((decide (ri < 0)) || (decide (1048576 < ri))) || (decide (rp < 0))) = false then .int .i64 rp else undef), .eq (if (((decide (ri < 0)) || (decide (1048576 < ri))) || (decide (rp < 0))) = false then .bool (decide (1000 < rp)) else undef), .eq (.bool ((((decide (ri < 0)) || (decide (1048576 < ri))) || (decide (rp < 0))) || (decide (1000 < rp))))] [[(1, none)], [(3, some 0)], [(4, some 1)], [(5, some 2)], [(1, none), (6, some 3)], [(7, some 4), (6, some 3)], [(8, some 5), (6, some 3)], [(6, some 3), (9, some 6)], [(10, some 7)], [(1, none), (11, some 8)], [(12, some 9), (11, some 8)], [(13, some 10), (11, some 8)], [(11, some 8), (14, some 11)], [(15, some 12)], [(1, none), (16, some 13)], [(17, some 14), (16, some 13)], [(18, some 15), (16, some 13)], [(16, some 13), (19, some 16)]] d4 z3 (by kernel_rfl) ⟨Ov rfl rfl fun _ _ T ⟨k1, _⟩ => ex_fieldAddr (k1.trans s7_1) (fa_89_0 _ _ _),
    Ov rfl rfl fun _ _ T ⟨k3, _⟩ => ex_load k3 (Try.isAgg3 _) (cell_of (Ext.keep T.ext hb1) rfl),
    Ov rfl rfl fun _ _ T ⟨k4, _⟩ => ex_lss k4 rfl,
    Ov rfl rfl fun _ _ T ⟨k5, _⟩ => ex_move k5,
    Og rfl rfl rfl fun _ _ T ⟨k1, k6, _⟩ => ⟨k6, fun hcQ => ex_fieldAddr (k1.trans s7_1) (fa_89_0 _ _ _)⟩,
    Og rfl rfl rfl fun _ _ T ⟨k7, k6, _⟩ => ⟨k6, fun hcQ => ex_load (k7.trans (if_pos hcQ)) (Try.isAgg3 _) (cell_of (Ext.keep T.ext hb1) rfl)⟩,
    Og rfl rfl rfl fun _ _ T ⟨k8, k6, _⟩ => ⟨k6, fun hcQ => ex_gtr (k8.trans (if_pos hcQ)) rfl⟩,
    Ov rfl rfl fun _ _ T ⟨k6, k9, _⟩ => ex_pick_or k6 rfl k9,
    Ov rfl rfl fun _ _ T ⟨k10, _⟩ => ex_move k10,
    Og rfl rfl rfl fun _ _ T ⟨k1, k11, _⟩ => ⟨k11, fun hcQ => ex_fieldAddr (k1.trans s7_1) (fa_89_3 _ _ _)⟩,
    Og rfl rfl rfl fun _ _ T ⟨k12, k11, _⟩ => ⟨k11, fun hcQ => ex_load (k12.trans (if_pos hcQ)) (Try.isAgg3 _) (cell_of (Ext.keep T.ext hb1) rfl)⟩,
    Og rfl rfl rfl fun _ _ T ⟨k13, k11, _⟩ => ⟨k11, fun hcQ => ex_lss (k13.trans (if_pos hcQ)) rfl⟩,
    Ov rfl rfl fun _ _ T ⟨k11, k14, _⟩ => ex_pick_or k11 rfl k14,
    Ov rfl rfl fun _ _ T ⟨k15, _⟩ => ex_move k15,
    Og rfl rfl rfl fun _ _ T ⟨k1, k16, _⟩ => ⟨k16, fun hcQ => ex_fieldAddr (k1.trans s7_1) (fa_89_3 _ _ _)⟩,
    Og rfl rfl rfl fun _ _ T ⟨k17, k16, _⟩ => ⟨k16, fun hcQ => ex_load (k17.trans (if_pos hcQ)) (Try.isAgg3 _) (cell_of (Ext.keep T.ext hb1) rfl)⟩,
    Og rfl rfl rfl fun _ _ T ⟨k18, k16, _⟩ => ⟨k16, fun hcQ => ex_gtr (k18.trans (if_pos hcQ)) rfl⟩,
    Ov rfl rfl fun _ _ T ⟨k16, k19, _⟩ => ex_pick_or k16 rfl k19,
    trivial⟩ ?_
  intro a8 w8 d8 z8 t8 e8 q8
  rcases Bool.eq_false_or_eq_true ((((decide (ri < 0)) || (decide (1048576 < ri))) || (decide (rp < 0))) || (decide (1000 < rp))) with y9 | y9
  · have c9 := y9; try simp only [Bool.and_eq_true, Bool.or_eq_true, Bool.and_eq_false_iff, Bool.or_eq_false_iff, Bool.not_eq_true', Bool.not_eq_false', decide_eq_true_eq, decide_eq_false_iff_not] at c9
    have s10_20 : a8.eval (.tmp 20) = .bool ((((decide (ri < 0)) || (decide (1048576 < ri))) || (decide (rp < 0))) || (decide (1000 < rp))) := e8.2.2.2.2.2.2.2.2.2.2.2.2.2.2.2.2.2.1
    refine wp_cond_true (s10_20.trans (by rw [y9])) ?_
    refine rgs mixed 21 [.eq (.int .i64 5)] [[]] d8 z8 (by kernel_rfl) ⟨Ov rfl rfl fun _ _ T _ => ex_assign rfl, trivial⟩ ?_
    intro a11 w11 d11 z11 t11 e11 q11
    refine wp_ret ?_
    have s12_2 : a11.eval (.tmp 2) = .int .i64 5 := e11.1
    repeat (first | (with_reducible refine then_ret ?_) | (with_reducible refine block_ret ?_))
    refine retl (rs := [.tmp 2]) Try.results81 ⟨s12_2, trivial⟩ d11 ?_
    have x13 := (Touch.trans (Touch.trans (Touch.trans x0 (Ext.touch t1)) (Ext.touch t8)) (Ext.touch t11))
    exact ⟨by unfold bounds; rw [if_pos y9], x13.ext⟩
  · have c9 := y9; try simp only [Bool.and_eq_true, Bool.or_eq_true, Bool.and_eq_false_iff, Bool.or_eq_false_iff, Bool.not_eq_true', Bool.not_eq_false', decide_eq_true_eq, decide_eq_false_iff_not] at c9
    have s14_20 : a8.eval (.tmp 20) = .bool ((((decide (ri < 0)) || (decide (1048576 < ri))) || (decide (rp < 0))) || (decide (1000 < rp))) := e8.2.2.2.2.2.2.2.2.2.2.2.2.2.2.2.2.2.1
    refine wp_cond_false (s14_20.trans (by rw [y9])) ?_
    refine wp_skip ?_
    repeat (with_reducible refine block_norm ?_)
    refine hK5 _ _ ?_
    refine rgs mixed 21 [.eq (.int .i64 0)] [[]] d8 z8 (by kernel_rfl) ⟨Ov rfl rfl fun _ _ T _ => ex_assign rfl, trivial⟩ ?_
    intro a15 w15 d15 z15 t15 e15 q15
    refine wp_ret ?_
    have s16_2 : a15.eval (.tmp 2) = .int .i64 0 := e15.1
    repeat (first | (with_reducible refine then_ret ?_) | (with_reducible refine block_ret ?_))
    refine retl (rs := [.tmp 2]) Try.results81 ⟨s16_2, trivial⟩ d15 ?_
    have x17 := (Touch.trans (Touch.trans (Touch.trans x0 (Ext.touch t1)) (Ext.touch t8)) (Ext.touch t15))
    exact ⟨by unfold bounds; rw [if_neg (by rw [y9]; decide)], x17.ext⟩

def wof (n : Int) : Int × Int := (0, n)
set_option maxRecDepth 100000 in
set_option maxHeartbeats 4000000 in
theorem c_wof (n : Int) (w : World) : Calls Try.prog 105 #[.int .u64 n] w fun e w' => e = .returned (.agg #[.int .u64 (wof n).1, .int .u64 (wof n).2]) ∧ Ext w w' := by
  refine enter 5 Try.ntmps105 Try.func105 rfl (Nat.le_of_ble_eq_true rfl) fun a0 d0 z0 hargs => ?_
  have s0_0 : a0.eval (.tmp 0) = .int .u64 n := hargs 0 _ rfl
  have x0 := Touch.refl NoF w
  refine wp_seq ?_
  refine seq_begin ?_
  refine salloc z0 rfl (zv_57 _) ?_; intro b1 w1 a1 t1 g1 hb1 u1 z1
  have yb1_2 := Nat.le_trans (Touch.size x0) g1
  have d3 := (u1.defs.trans d0)
  refine seq_end ?_
  refine then_norm ?_
  refine wp_seq ?_
  refine seq_begin ?_
  refine sp z1 rfl rfl (ex_move ((u1.past 0 rfl).trans s0_0)) ?_; intro a4 u4 z4
  refine sp z4 rfl rfl (exl_build (cons_parts (u4.here _ rfl) nil_parts) (bd_57_1Iu64 n _)) ?_; intro a5 u5 z5
  refine sstore (cs := [.int .u64 0, .int .u64 0]) (vs := [.int .u64 0, .int .u64 n]) (cs' := [.int .u64 0, .int .u64 n]) z5 rfl ((u5.past 2 rfl).trans ((u4.past 2 rfl).trans (u1.here _ rfl))) (u5.here _ rfl) hb1 (Try.sizeOf57 _) rfl rfl (by decide) (Nat.le_of_ble_eq_true rfl) rfl rfl ?_; intro w6 a6 t6 u6 z6
  have d7 := (u6.defs.trans (u5.defs.trans (u4.defs.trans d3)))
  refine seq_end ?_
  refine then_norm ?_
  refine wp_ret ?_
  have s8_2 : a1.eval (.tmp 2) = .pointer (some ⟨b1, 0, none⟩) := (u1.here _ rfl)
  have s9_2 := ((u6.past 2 rfl).trans ((u5.past 2 rfl).trans ((u4.past 2 rfl).trans s8_2)))
  repeat (first | (with_reducible refine then_ret ?_) | (with_reducible refine block_ret ?_))
  refine retl (rs := [.cell 2 57]) Try.results105 ⟨⟨_, s9_2, run_loadVarA (cs := [.int .u64 0, .int .u64 n]) (Try.isAgg57 _) (Try.sizeOf57 _) (cells_of (off := 0) t6.here rfl)⟩, trivial⟩ d7 ?_
  have x10 := (Touch.turn (Touch.trans x0 (Ext.touch t1)) t6 (Or.inr yb1_2))
  exact ⟨by unfold wof; rfl, x10.ext⟩

def wzero (ch : Int) (cl : Int) : Bool := ch == 0 && (cl == 0 && true)
set_option maxRecDepth 100000 in
set_option maxHeartbeats 4000000 in
theorem c_wzero (ch : Int) (cl : Int) (w : World) : Calls Try.prog 26 #[.agg #[.int .u64 ch, .int .u64 cl]] w fun e w' => e = .returned (.bool (wzero ch cl)) ∧ Ext w w' := by
  refine enter 6 Try.ntmps26 Try.func26 rfl (Nat.le_of_ble_eq_true rfl) fun a0 d0 z0 hargs => ?_
  have s0_0 : a0.eval (.tmp 0) = .agg #[.int .u64 ch, .int .u64 cl] := hargs 0 _ rfl
  have x0 := Touch.refl NoF w
  refine wp_seq ?_
  refine seq_begin ?_
  refine sbox z0 rfl s0_0 ?_; intro b1 w1 a1 t1 g1 hb1 u1 z1
  have yb1_2 := Nat.le_trans (Touch.size x0) g1
  refine sp z1 rfl rfl (ex_assign rfl) ?_; intro a3 u3 z3
  have d4 := (u3.defs.trans (u1.defs.trans d0))
  refine seq_end ?_
  refine then_norm ?_
  have s5_1 : a1.eval (.tmp 1) = .pointer (some ⟨b1, 0, none⟩) := (u1.here _ rfl)
  have s6_1 := ((u3.past 1 rfl).trans s5_1)
  refine rgs mixed 6 [.eq (.agg #[.int .u64 ch, .int .u64 cl]), .eq (.agg #[.int .u64 0, .int .u64 0]), .eq (.bool (ch == 0 && (cl == 0 && true))), .eq (.bool (ch == 0 && (cl == 0 && true)))] [[(1, none)], [], [(3, some 0), (4, some 1)], [(5, some 2)]] d4 z3 (by kernel_rfl) ⟨Ov rfl rfl fun _ _ T ⟨k1, _⟩ => ex_loadAgg (cs := [.int .u64 ch, .int .u64 cl]) (k1.trans s6_1) (Try.isAgg57 _) (Try.sizeOf57 _) (cells_of (off := 0) (Ext.keep T.ext hb1) rfl),
    Ov rfl rfl fun _ _ T _ => exl_build nil_parts (bd_57_ _),
    Ov rfl rfl fun _ _ T ⟨k3, k4, _⟩ => ex_binOp k3 k4 (eqs_eql eg_57 (eq_57 9998 _ ch 0 cl 0)),
    Ov rfl rfl fun _ _ T ⟨k5, _⟩ => ex_assign k5,
    trivial⟩ ?_
  intro a7 w7 d7 z7 t7 e7 q7
  refine wp_ret ?_
  have s8_2 : a7.eval (.tmp 2) = .bool (ch == 0 && (cl == 0 && true)) := e7.2.2.2.1
  repeat (first | (with_reducible refine then_ret ?_) | (with_reducible refine block_ret ?_))
  refine retl (rs := [.tmp 2]) Try.results26 ⟨s8_2, trivial⟩ d7 ?_
  have x9 := (Touch.trans (Touch.trans x0 (Ext.touch t1)) (Ext.touch t7))
  exact ⟨by unfold wzero; rfl, x9.ext⟩

def radd (ch : Int) (cl : Int) (dh : Int) (dl : Int) : Int × Int := if (IntKind.u64.wrap (cl + dl)) < cl then (IntKind.u64.wrap ((IntKind.u64.wrap (ch + dh)) + 1), IntKind.u64.wrap (cl + dl)) else (IntKind.u64.wrap (ch + dh), IntKind.u64.wrap (cl + dl))
set_option maxRecDepth 100000 in
set_option maxHeartbeats 4000000 in
theorem c_radd (ch : Int) (cl : Int) (dh : Int) (dl : Int) (w : World) : Calls Try.prog 111 #[.agg #[.int .u64 ch, .int .u64 cl], .agg #[.int .u64 dh, .int .u64 dl]] w fun e w' => e = .returned (.agg #[.int .u64 (radd ch cl dh dl).1, .int .u64 (radd ch cl dh dl).2]) ∧ Ext w w' := by
  refine enter 26 Try.ntmps111 Try.func111 rfl (Nat.le_of_ble_eq_true rfl) fun a0 d0 z0 hargs => ?_
  have s0_0 : a0.eval (.tmp 0) = .agg #[.int .u64 ch, .int .u64 cl] := hargs 0 _ rfl
  have s0_1 : a0.eval (.tmp 1) = .agg #[.int .u64 dh, .int .u64 dl] := hargs 1 _ rfl
  have x0 := Touch.refl NoF w
  refine wp_seq ?_
  refine seq_begin ?_
  refine sbox z0 rfl s0_0 ?_; intro b1 w1 a1 t1 g1 hb1 u1 z1
  have yb1_2 := Nat.le_trans (Touch.size x0) g1
  refine sbox z1 rfl ((u1.past 1 rfl).trans s0_1) ?_; intro b3 w3 a3 t3 g3 hb3 u3 z3
  have n4_b1_b3 := ne_lt (lt_of hb1) g3
  have x6 := (Touch.trans x0 (Ext.touch t1))
  have yb3_5 := Nat.le_trans (Touch.size x6) g3
  refine salloc z3 rfl (zv_61 _) ?_; intro b7 w7 a7 t7 g7 hb7 u7 z7
  have hb1_9 := (Ext.keep t3 hb1)
  have n8_b1_b7 := ne_lt (lt_of hb1_9) g7
  have n10_b3_b7 := ne_lt (lt_of hb3) g7
  have x12 := (Touch.trans x6 (Ext.touch t3))
  have yb7_11 := Nat.le_trans (Touch.size x12) g7
  have d13 := (u7.defs.trans (u3.defs.trans (u1.defs.trans d0)))
  refine seq_end ?_
  refine then_norm ?_
  have s14_2 : a1.eval (.tmp 2) = .pointer (some ⟨b1, 0, none⟩) := (u1.here _ rfl)
  have s15_2 := ((u7.past 2 rfl).trans ((u3.past 2 rfl).trans s14_2))
  have hb1_16 := (Ext.keep t7 hb1_9)
  have s17_3 : a3.eval (.tmp 3) = .pointer (some ⟨b3, 0, none⟩) := (u3.here _ rfl)
  have s18_3 := ((u7.past 3 rfl).trans s17_3)
  have hb3_19 := (Ext.keep t7 hb3)
  refine rgs mixed 26 [.eq (.pointer (some ⟨b1, 1, none⟩)), .eq (.int .u64 cl), .eq (.pointer (some ⟨b3, 1, none⟩)), .eq (.int .u64 dl), .eq (.int .u64 (IntKind.u64.wrap (cl + dl))), .eq (.int .u64 (IntKind.u64.wrap (cl + dl)))] [[(2, none)], [(7, some 0)], [(3, none)], [(9, some 2)], [(8, some 1), (10, some 3)], [(11, some 4)]] d13 z7 (by kernel_rfl) ⟨Ov rfl rfl fun _ _ T ⟨k2, _⟩ => ex_fieldAddr (k2.trans s15_2) (fa_61_1 _ _ _),
    Ov rfl rfl fun _ _ T ⟨k7, _⟩ => ex_load k7 (Try.isAgg55 _) (cell_of (Ext.keep T.ext hb1_16) rfl),
    Ov rfl rfl fun _ _ T ⟨k3, _⟩ => ex_fieldAddr (k3.trans s18_3) (fa_61_1 _ _ _),
    Ov rfl rfl fun _ _ T ⟨k9, _⟩ => ex_load k9 (Try.isAgg55 _) (cell_of (Ext.keep T.ext hb3_19) rfl),
    Ov rfl rfl fun _ _ T ⟨k8, k10, _⟩ => ex_add k8 k10,
    Ov rfl rfl fun _ _ T ⟨k11, _⟩ => ex_assign k11,
    trivial⟩ ?_
  intro a20 w20 d20 z20 t20 e20 q20
  have s21_2 := ((q20 2 rfl).trans s15_2)
  have hb1_22 := (Ext.keep t20 hb1_16)
  have s23_3 := ((q20 3 rfl).trans s18_3)
  have hb3_24 := (Ext.keep t20 hb3_19)
  refine rgs mixed 26 [.eq (.pointer (some ⟨b1, 0, none⟩)), .eq (.int .u64 ch), .eq (.pointer (some ⟨b3, 0, none⟩)), .eq (.int .u64 dh), .eq (.int .u64 (IntKind.u64.wrap (ch + dh))), .eq (.int .u64 (IntKind.u64.wrap (ch + dh)))] [[(2, none)], [(12, some 0)], [(3, none)], [(14, some 2)], [(13, some 1), (15, some 3)], [(16, some 4)]] d20 z20 (by kernel_rfl) ⟨Ov rfl rfl fun _ _ T ⟨k2, _⟩ => ex_fieldAddr (k2.trans s21_2) (fa_61_0 _ _ _),
    Ov rfl rfl fun _ _ T ⟨k12, _⟩ => ex_load k12 (Try.isAgg55 _) (cell_of (Ext.keep T.ext hb1_22) rfl),
    Ov rfl rfl fun _ _ T ⟨k3, _⟩ => ex_fieldAddr (k3.trans s23_3) (fa_61_0 _ _ _),
    Ov rfl rfl fun _ _ T ⟨k14, _⟩ => ex_load k14 (Try.isAgg55 _) (cell_of (Ext.keep T.ext hb3_24) rfl),
    Ov rfl rfl fun _ _ T ⟨k13, k15, _⟩ => ex_add k13 k15,
    Ov rfl rfl fun _ _ T ⟨k16, _⟩ => ex_assign k16,
    trivial⟩ ?_
  intro a25 w25 d25 z25 t25 e25 q25
  refine wp_seq_k fun K26 hK26 => ?_
  have s27_5 : a20.eval (.tmp 5) = .int .u64 (IntKind.u64.wrap (cl + dl)) := e20.2.2.2.2.2.1
  have s28_5 := ((q25 5 rfl).trans s27_5)
  have s29_2 := ((q25 2 rfl).trans s21_2)
  have hb1_30 := (Ext.keep t25 hb1_22)
  refine rgs mixed 26 [.eq (.int .u64 (IntKind.u64.wrap (cl + dl))), .eq (.pointer (some ⟨b1, 1, none⟩)), .eq (.int .u64 cl), .eq (.bool (decide ((IntKind.u64.wrap (cl + dl)) < cl)))] [[(5, none)], [(2, none)], [(18, some 1)], [(17, some 0), (19, some 2)]] d25 z25 (by kernel_rfl) ⟨Ov rfl rfl fun _ _ T ⟨k5, _⟩ => ex_move (k5.trans s28_5),
    Ov rfl rfl fun _ _ T ⟨k2, _⟩ => ex_fieldAddr (k2.trans s29_2) (fa_61_1 _ _ _),
    Ov rfl rfl fun _ _ T ⟨k18, _⟩ => ex_load k18 (Try.isAgg55 _) (cell_of (Ext.keep T.ext hb1_30) rfl),
    Ov rfl rfl fun _ _ T ⟨k17, k19, _⟩ => ex_lss k17 k19,
    trivial⟩ ?_
  intro a31 w31 d31 z31 t31 e31 q31
  by_cases c32 : (IntKind.u64.wrap (cl + dl)) < cl
  · have y32 := decide_eq_true c32
    have s33_20 : a31.eval (.tmp 20) = .bool (decide ((IntKind.u64.wrap (cl + dl)) < cl)) := e31.2.2.2.1
    refine wp_cond_true (s33_20.trans (by rw [y32])) ?_
    have s34_6 : a25.eval (.tmp 6) = .int .u64 (IntKind.u64.wrap (ch + dh)) := e25.2.2.2.2.2.1
    have s35_6 := ((q31 6 rfl).trans s34_6)
    refine rg mixed 26 [.eq (.int .u64 (IntKind.u64.wrap (ch + dh))), .eq (.int .u64 (IntKind.u64.wrap ((IntKind.u64.wrap (ch + dh)) + 1))), .eq (.int .u64 (IntKind.u64.wrap ((IntKind.u64.wrap (ch + dh)) + 1)))] [[(6, none)], [(21, some 0)], [(22, some 1)]] d31 z31 (by kernel_rfl) ⟨Ov rfl rfl fun _ _ T ⟨k6, _⟩ => ex_move (k6.trans s35_6), Ov rfl rfl fun _ _ T ⟨k21, _⟩ => ex_add k21 rfl, Ov rfl rfl fun _ _ T ⟨k22, _⟩ => ex_assign k22, trivial⟩ ?_
    intro a36 w36 d36 z36 t36 e36 q36
    repeat (with_reducible refine block_norm ?_)
    refine hK26 _ _ ?_
    refine wp_seq ?_
    refine seq_begin ?_
    refine sp z36 rfl rfl (ex_move e36.2.2.1) ?_; intro a37 u37 z37
    refine sp z37 rfl rfl (ex_move ((u37.past 5 rfl).trans ((q36 5 rfl).trans ((q31 5 rfl).trans s28_5)))) ?_; intro a38 u38 z38
    refine sp z38 rfl rfl (exl_build (cons_parts ((u38.past 23 rfl).trans (u37.here _ rfl)) (cons_parts (u38.here _ rfl) nil_parts)) (bd_61_0Iu64_1Iu64 (IntKind.u64.wrap ((IntKind.u64.wrap (ch + dh)) + 1)) (IntKind.u64.wrap (cl + dl)) _)) ?_; intro a39 u39 z39
    have hb7_41 := (Ext.keep t36 (Ext.keep t31 (Ext.keep t25 (Ext.keep t20 hb7))))
    refine sstore (cs := [.int .u64 0, .int .u64 0]) (vs := [.int .u64 (IntKind.u64.wrap ((IntKind.u64.wrap (ch + dh)) + 1)), .int .u64 (IntKind.u64.wrap (cl + dl))]) (cs' := [.int .u64 (IntKind.u64.wrap ((IntKind.u64.wrap (ch + dh)) + 1)), .int .u64 (IntKind.u64.wrap (cl + dl))]) z39 rfl ((u39.past 4 rfl).trans ((u38.past 4 rfl).trans ((u37.past 4 rfl).trans ((q36 4 rfl).trans ((q31 4 rfl).trans ((q25 4 rfl).trans ((q20 4 rfl).trans (u7.here _ rfl)))))))) (u39.here _ rfl) hb7_41 (Try.sizeOf61 _) rfl rfl (by decide) (Nat.le_of_ble_eq_true rfl) rfl rfl ?_; intro w40 a40 t40 u40 z40
    have d42 := (u40.defs.trans (u39.defs.trans (u38.defs.trans (u37.defs.trans d36))))
    refine seq_end ?_
    refine then_norm ?_
    refine wp_ret ?_
    have s43_4 : a7.eval (.tmp 4) = .pointer (some ⟨b7, 0, none⟩) := (u7.here _ rfl)
    have s44_4 := ((u40.past 4 rfl).trans ((u39.past 4 rfl).trans ((u38.past 4 rfl).trans ((u37.past 4 rfl).trans ((q36 4 rfl).trans ((q31 4 rfl).trans ((q25 4 rfl).trans ((q20 4 rfl).trans s43_4))))))))
    repeat (first | (with_reducible refine then_ret ?_) | (with_reducible refine block_ret ?_))
    refine retl (rs := [.cell 4 61]) Try.results111 ⟨⟨_, s44_4, run_loadVarA (cs := [.int .u64 (IntKind.u64.wrap ((IntKind.u64.wrap (ch + dh)) + 1)), .int .u64 (IntKind.u64.wrap (cl + dl))]) (Try.isAgg61 _) (Try.sizeOf61 _) (cells_of (off := 0) t40.here rfl)⟩, trivial⟩ d42 ?_
    have x45 := (Touch.turn (Touch.trans (Touch.trans (Touch.trans (Touch.trans (Touch.trans x12 (Ext.touch t7)) (Ext.touch t20)) (Ext.touch t25)) (Ext.touch t31)) (Ext.touch t36)) t40 (Or.inr yb7_11))
    exact ⟨by unfold radd; rw [if_pos c32], x45.ext⟩
  · have y32 := decide_eq_false c32
    have s46_20 : a31.eval (.tmp 20) = .bool (decide ((IntKind.u64.wrap (cl + dl)) < cl)) := e31.2.2.2.1
    refine wp_cond_false (s46_20.trans (by rw [y32])) ?_
    refine wp_skip ?_
    repeat (with_reducible refine block_norm ?_)
    refine hK26 _ _ ?_
    refine wp_seq ?_
    refine seq_begin ?_
    refine sp z31 rfl rfl (ex_move ((q31 6 rfl).trans e25.2.2.2.2.2.1)) ?_; intro a47 u47 z47
    refine sp z47 rfl rfl (ex_move ((u47.past 5 rfl).trans ((q31 5 rfl).trans s28_5))) ?_; intro a48 u48 z48
    refine sp z48 rfl rfl (exl_build (cons_parts ((u48.past 23 rfl).trans (u47.here _ rfl)) (cons_parts (u48.here _ rfl) nil_parts)) (bd_61_0Iu64_1Iu64 (IntKind.u64.wrap (ch + dh)) (IntKind.u64.wrap (cl + dl)) _)) ?_; intro a49 u49 z49
    have hb7_51 := (Ext.keep t31 (Ext.keep t25 (Ext.keep t20 hb7)))
    refine sstore (cs := [.int .u64 0, .int .u64 0]) (vs := [.int .u64 (IntKind.u64.wrap (ch + dh)), .int .u64 (IntKind.u64.wrap (cl + dl))]) (cs' := [.int .u64 (IntKind.u64.wrap (ch + dh)), .int .u64 (IntKind.u64.wrap (cl + dl))]) z49 rfl ((u49.past 4 rfl).trans ((u48.past 4 rfl).trans ((u47.past 4 rfl).trans ((q31 4 rfl).trans ((q25 4 rfl).trans ((q20 4 rfl).trans (u7.here _ rfl))))))) (u49.here _ rfl) hb7_51 (Try.sizeOf61 _) rfl rfl (by decide) (Nat.le_of_ble_eq_true rfl) rfl rfl ?_; intro w50 a50 t50 u50 z50
    have d52 := (u50.defs.trans (u49.defs.trans (u48.defs.trans (u47.defs.trans d31))))
    refine seq_end ?_
    refine then_norm ?_
    refine wp_ret ?_
    have s53_4 : a7.eval (.tmp 4) = .pointer (some ⟨b7, 0, none⟩) := (u7.here _ rfl)
    have s54_4 := ((u50.past 4 rfl).trans ((u49.past 4 rfl).trans ((u48.past 4 rfl).trans ((u47.past 4 rfl).trans ((q31 4 rfl).trans ((q25 4 rfl).trans ((q20 4 rfl).trans s53_4)))))))
    repeat (first | (with_reducible refine then_ret ?_) | (with_reducible refine block_ret ?_))
    refine retl (rs := [.cell 4 61]) Try.results111 ⟨⟨_, s54_4, run_loadVarA (cs := [.int .u64 (IntKind.u64.wrap (ch + dh)), .int .u64 (IntKind.u64.wrap (cl + dl))]) (Try.isAgg61 _) (Try.sizeOf61 _) (cells_of (off := 0) t50.here rfl)⟩, trivial⟩ d52 ?_
    have x55 := (Touch.turn (Touch.trans (Touch.trans (Touch.trans (Touch.trans x12 (Ext.touch t7)) (Ext.touch t20)) (Ext.touch t25)) (Ext.touch t31)) t50 (Or.inr yb7_11))
    exact ⟨by unfold radd; rw [if_neg c32], x55.ext⟩

def short (kind : Int) (f : Int) (g : Int) : Int × Bool := if kind = 0 then if ((decide (f = 0)) || (decide (g = 0))) = true then (0, true) else if ((decide (f = 1)) || (decide (f = g))) = true then (g, true) else if g = 1 then (f, true) else (0, false) else if kind = 1 then if ((decide (f = 1)) || (decide (g = 1))) = true then (1, true) else if ((decide (f = 0)) || (decide (f = g))) = true then (g, true) else if g = 0 then (f, true) else (0, false) else if kind = 2 then if f = g then (0, true) else if f = 0 then (g, true) else if g = 0 then (f, true) else (0, false) else if (((decide (f = 0)) || (decide (g = 1))) || (decide (f = g))) = true then (0, true) else if g = 0 then (f, true) else (0, false)
set_option maxRecDepth 100000 in
set_option maxHeartbeats 4000000 in
theorem c_short (kind : Int) (f : Int) (g : Int) (w : World) : Calls Try.prog 131 #[.int .i64 kind, .int .i64 f, .int .i64 g] w fun e w' => e = .returned (.tuple #[.int .i64 (short kind f g).1, .bool (short kind f g).2]) ∧ Ext w w' := by
  refine enter 83 Try.ntmps131 Try.func131 rfl (Nat.le_of_ble_eq_true rfl) fun a0 d0 z0 hargs => ?_
  have s0_0 : a0.eval (.tmp 0) = .int .i64 kind := hargs 0 _ rfl
  have s0_1 : a0.eval (.tmp 1) = .int .i64 f := hargs 1 _ rfl
  have s0_2 : a0.eval (.tmp 2) = .int .i64 g := hargs 2 _ rfl
  have x0 := Touch.refl NoF w
  refine rgs mixed 83 [.eq (.int .i64 0), .eq (.bool false)] [[], []] d0 z0 (by kernel_rfl) ⟨Ov rfl rfl fun _ _ T _ => ex_assign rfl, Ov rfl rfl fun _ _ T _ => ex_assign rfl, trivial⟩ ?_
  intro a1 w1 d1 z1 t1 e1 q1
  refine wp_seq_k fun K2 hK2 => ?_
  have s3_0 := ((q1 0 rfl).trans s0_0)
  refine rgs mixed 83 [.eq (.int .i64 kind)] [[(0, none)]] d1 z1 (by kernel_rfl) ⟨Ov rfl rfl fun _ _ T ⟨k0, _⟩ => ex_move (k0.trans s3_0), trivial⟩ ?_
  intro a4 w4 d4 z4 t4 e4 q4
  refine wp_block ?_
  have s5_8 : a4.eval (.tmp 8) = .int .i64 kind := e4.1
  refine rgs mixed 83 [.eq (.bool (decide (kind = 0))), .eq (.bool (decide (kind = 0)))] [[(8, none)], [(26, some 0)]] d4 z4 (by kernel_rfl) ⟨Ov rfl rfl fun _ _ T ⟨k8, _⟩ => ex_eql (k8.trans s5_8) rfl, Ov rfl rfl fun _ _ T ⟨k26, _⟩ => ex_assign k26, trivial⟩ ?_
  intro a6 w6 d6 z6 t6 e6 q6
  by_cases c7 : kind = 0
  · have y7 := decide_eq_true c7
    have s8_25 : a6.eval (.tmp 25) = .bool (decide (kind = 0)) := e6.2.1
    refine wp_cond_true (s8_25.trans (by rw [y7])) ?_
    refine wp_block ?_
    have s9_1 := ((q6 1 rfl).trans ((q4 1 rfl).trans ((q1 1 rfl).trans s0_1)))
    have s10_2 := ((q6 2 rfl).trans ((q4 2 rfl).trans ((q1 2 rfl).trans s0_2)))
    refine rgs mixed 83 [.eq (.int .i64 f), .eq (.bool (decide (f = 0))), .eq (.bool (decide (f = 0))), .eq (if (decide (f = 0)) = false then .int .i64 g else undef), .eq (if (decide (f = 0)) = false then .bool (decide (g = 0)) else undef), .eq (.bool ((decide (f = 0)) || (decide (g = 0)))), .eq (.bool ((decide (f = 0)) || (decide (g = 0))))] [[(1, none)], [(28, some 0)], [(29, some 1)], [(2, none), (30, some 2)], [(31, some 3), (30, some 2)], [(30, some 2), (32, some 4)], [(33, some 5)]] d6 z6 (by kernel_rfl) ⟨Ov rfl rfl fun _ _ T ⟨k1, _⟩ => ex_move (k1.trans s9_1),
      Ov rfl rfl fun _ _ T ⟨k28, _⟩ => ex_eql k28 rfl,
      Ov rfl rfl fun _ _ T ⟨k29, _⟩ => ex_move k29,
      Og rfl rfl rfl fun _ _ T ⟨k2, k30, _⟩ => ⟨k30, fun hcQ => ex_move (k2.trans s10_2)⟩,
      Og rfl rfl rfl fun _ _ T ⟨k31, k30, _⟩ => ⟨k30, fun hcQ => ex_eql (k31.trans (if_pos hcQ)) rfl⟩,
      Ov rfl rfl fun _ _ T ⟨k30, k32, _⟩ => ex_pick_or k30 rfl k32,
      Ov rfl rfl fun _ _ T ⟨k33, _⟩ => ex_assign k33,
      trivial⟩ ?_
    intro a11 w11 d11 z11 t11 e11 q11
    rcases Bool.eq_false_or_eq_true ((decide (f = 0)) || (decide (g = 0))) with y12 | y12
    · have c12 := y12; try simp only [Bool.and_eq_true, Bool.or_eq_true, Bool.and_eq_false_iff, Bool.or_eq_false_iff, Bool.not_eq_true', Bool.not_eq_false', decide_eq_true_eq, decide_eq_false_iff_not] at c12
      have s13_27 : a11.eval (.tmp 27) = .bool ((decide (f = 0)) || (decide (g = 0))) := e11.2.2.2.2.2.2.1
      refine wp_cond_true (s13_27.trans (by rw [y12])) ?_
      refine rgs mixed 83 [.eq (.int .i64 0), .eq (.bool true)] [[], []] d11 z11 (by kernel_rfl) ⟨Ov rfl rfl fun _ _ T _ => ex_assign rfl, Ov rfl rfl fun _ _ T _ => ex_assign rfl, trivial⟩ ?_
      intro a14 w14 d14 z14 t14 e14 q14
      refine wp_ret ?_
      have s15_6 : a14.eval (.tmp 6) = .int .i64 0 := e14.1
      have s16_7 : a14.eval (.tmp 7) = .bool true := e14.2.1
      repeat (first | (with_reducible refine then_ret ?_) | (with_reducible refine block_ret ?_))
      refine rett (rs := [.tmp 6, .tmp 7]) (vs := [.int .i64 0, .bool true]) Try.results131 ⟨s15_6, ⟨s16_7, trivial⟩⟩ (by simp) d14 ?_
      have x17 := (Touch.trans (Touch.trans (Touch.trans (Touch.trans (Touch.trans x0 (Ext.touch t1)) (Ext.touch t4)) (Ext.touch t6)) (Ext.touch t11)) (Ext.touch t14))
      exact ⟨by unfold short; rw [if_pos c7, if_pos y12], x17.ext⟩
    · have c12 := y12; try simp only [Bool.and_eq_true, Bool.or_eq_true, Bool.and_eq_false_iff, Bool.or_eq_false_iff, Bool.not_eq_true', Bool.not_eq_false', decide_eq_true_eq, decide_eq_false_iff_not] at c12
      have s18_27 : a11.eval (.tmp 27) = .bool ((decide (f = 0)) || (decide (g = 0))) := e11.2.2.2.2.2.2.1
      refine wp_cond_false (s18_27.trans (by rw [y12])) ?_
      have s19_1 := ((q11 1 rfl).trans s9_1)
      have s20_2 := ((q11 2 rfl).trans s10_2)
      refine rgs mixed 83 [.eq (.int .i64 f), .eq (.bool (decide (f = 1))), .eq (.bool (decide (f = 1))), .eq (if (decide (f = 1)) = false then .int .i64 f else undef), .eq (if (decide (f = 1)) = false then .int .i64 g else undef), .eq (if (decide (f = 1)) = false then .bool (decide (f = g)) else undef), .eq (.bool ((decide (f = 1)) || (decide (f = g)))), .eq (.bool ((decide (f = 1)) || (decide (f = g))))] [[(1, none)], [(35, some 0)], [(36, some 1)], [(1, none), (37, some 2)], [(2, none), (37, some 2)], [(38, some 3), (39, some 4), (37, some 2)], [(37, some 2), (40, some 5)], [(41, some 6)]] d11 z11 (by kernel_rfl) ⟨Ov rfl rfl fun _ _ T ⟨k1, _⟩ => ex_move (k1.trans s19_1),
        Ov rfl rfl fun _ _ T ⟨k35, _⟩ => ex_eql k35 rfl,
        Ov rfl rfl fun _ _ T ⟨k36, _⟩ => ex_move k36,
        Og rfl rfl rfl fun _ _ T ⟨k1, k37, _⟩ => ⟨k37, fun hcQ => ex_move (k1.trans s19_1)⟩,
        Og rfl rfl rfl fun _ _ T ⟨k2, k37, _⟩ => ⟨k37, fun hcQ => ex_move (k2.trans s20_2)⟩,
        Og rfl rfl rfl fun _ _ T ⟨k38, k39, k37, _⟩ => ⟨k37, fun hcQ => ex_eql (k38.trans (if_pos hcQ)) (k39.trans (if_pos hcQ))⟩,
        Ov rfl rfl fun _ _ T ⟨k37, k40, _⟩ => ex_pick_or k37 rfl k40,
        Ov rfl rfl fun _ _ T ⟨k41, _⟩ => ex_assign k41,
        trivial⟩ ?_
      intro a21 w21 d21 z21 t21 e21 q21
      rcases Bool.eq_false_or_eq_true ((decide (f = 1)) || (decide (f = g))) with y22 | y22
      · have c22 := y22; try simp only [Bool.and_eq_true, Bool.or_eq_true, Bool.and_eq_false_iff, Bool.or_eq_false_iff, Bool.not_eq_true', Bool.not_eq_false', decide_eq_true_eq, decide_eq_false_iff_not] at c22
        have s23_34 : a21.eval (.tmp 34) = .bool ((decide (f = 1)) || (decide (f = g))) := e21.2.2.2.2.2.2.2.1
        refine wp_cond_true (s23_34.trans (by rw [y22])) ?_
        have s24_2 := ((q21 2 rfl).trans s20_2)
        refine rgs mixed 83 [.eq (.int .i64 g), .eq (.int .i64 g), .eq (.bool true)] [[(2, none)], [(42, some 0)], []] d21 z21 (by kernel_rfl) ⟨Ov rfl rfl fun _ _ T ⟨k2, _⟩ => ex_move (k2.trans s24_2), Ov rfl rfl fun _ _ T ⟨k42, _⟩ => ex_assign k42, Ov rfl rfl fun _ _ T _ => ex_assign rfl, trivial⟩ ?_
        intro a25 w25 d25 z25 t25 e25 q25
        refine wp_ret ?_
        have s26_6 : a25.eval (.tmp 6) = .int .i64 g := e25.2.1
        have s27_7 : a25.eval (.tmp 7) = .bool true := e25.2.2.1
        repeat (first | (with_reducible refine then_ret ?_) | (with_reducible refine block_ret ?_))
        refine rett (rs := [.tmp 6, .tmp 7]) (vs := [.int .i64 g, .bool true]) Try.results131 ⟨s26_6, ⟨s27_7, trivial⟩⟩ (by simp) d25 ?_
        have x28 := (Touch.trans (Touch.trans (Touch.trans (Touch.trans (Touch.trans (Touch.trans x0 (Ext.touch t1)) (Ext.touch t4)) (Ext.touch t6)) (Ext.touch t11)) (Ext.touch t21)) (Ext.touch t25))
        exact ⟨by unfold short; rw [if_pos c7, if_neg (by rw [y12]; decide), if_pos y22], x28.ext⟩
      · have c22 := y22; try simp only [Bool.and_eq_true, Bool.or_eq_true, Bool.and_eq_false_iff, Bool.or_eq_false_iff, Bool.not_eq_true', Bool.not_eq_false', decide_eq_true_eq, decide_eq_false_iff_not] at c22
        have s29_34 : a21.eval (.tmp 34) = .bool ((decide (f = 1)) || (decide (f = g))) := e21.2.2.2.2.2.2.2.1
        refine wp_cond_false (s29_34.trans (by rw [y22])) ?_
        have s30_2 := ((q21 2 rfl).trans s20_2)
        refine rgs mixed 83 [.eq (.int .i64 g), .eq (.bool (decide (g = 1))), .eq (.bool (decide (g = 1)))] [[(2, none)], [(44, some 0)], [(45, some 1)]] d21 z21 (by kernel_rfl) ⟨Ov rfl rfl fun _ _ T ⟨k2, _⟩ => ex_move (k2.trans s30_2), Ov rfl rfl fun _ _ T ⟨k44, _⟩ => ex_eql k44 rfl, Ov rfl rfl fun _ _ T ⟨k45, _⟩ => ex_assign k45, trivial⟩ ?_
        intro a31 w31 d31 z31 t31 e31 q31
        by_cases c32 : g = 1
        · have y32 := decide_eq_true c32
          have s33_43 : a31.eval (.tmp 43) = .bool (decide (g = 1)) := e31.2.2.1
          refine wp_cond_true (s33_43.trans (by rw [y32])) ?_
          have s34_1 := ((q31 1 rfl).trans ((q21 1 rfl).trans s19_1))
          refine rgs mixed 83 [.eq (.int .i64 f), .eq (.int .i64 f), .eq (.bool true)] [[(1, none)], [(46, some 0)], []] d31 z31 (by kernel_rfl) ⟨Ov rfl rfl fun _ _ T ⟨k1, _⟩ => ex_move (k1.trans s34_1), Ov rfl rfl fun _ _ T ⟨k46, _⟩ => ex_assign k46, Ov rfl rfl fun _ _ T _ => ex_assign rfl, trivial⟩ ?_
          intro a35 w35 d35 z35 t35 e35 q35
          refine wp_ret ?_
          have s36_6 : a35.eval (.tmp 6) = .int .i64 f := e35.2.1
          have s37_7 : a35.eval (.tmp 7) = .bool true := e35.2.2.1
          repeat (first | (with_reducible refine then_ret ?_) | (with_reducible refine block_ret ?_))
          refine rett (rs := [.tmp 6, .tmp 7]) (vs := [.int .i64 f, .bool true]) Try.results131 ⟨s36_6, ⟨s37_7, trivial⟩⟩ (by simp) d35 ?_
          have x38 := (Touch.trans (Touch.trans (Touch.trans (Touch.trans (Touch.trans (Touch.trans (Touch.trans x0 (Ext.touch t1)) (Ext.touch t4)) (Ext.touch t6)) (Ext.touch t11)) (Ext.touch t21)) (Ext.touch t31)) (Ext.touch t35))
          exact ⟨by unfold short; rw [if_pos c7, if_neg (by rw [y12]; decide), if_neg (by rw [y22]; decide), if_pos c32], x38.ext⟩
        · have y32 := decide_eq_false c32
          have s39_43 : a31.eval (.tmp 43) = .bool (decide (g = 1)) := e31.2.2.1
          refine wp_cond_false (s39_43.trans (by rw [y32])) ?_
          refine wp_skip ?_
          repeat (with_reducible refine block_norm ?_)
          refine hK2 _ _ ?_
          refine rgs mixed 83 [.eq (.int .i64 0), .eq (.bool false)] [[], []] d31 z31 (by kernel_rfl) ⟨Ov rfl rfl fun _ _ T _ => ex_assign rfl, Ov rfl rfl fun _ _ T _ => ex_assign rfl, trivial⟩ ?_
          intro a40 w40 d40 z40 t40 e40 q40
          refine wp_ret ?_
          have s41_6 : a40.eval (.tmp 6) = .int .i64 0 := e40.1
          have s42_7 : a40.eval (.tmp 7) = .bool false := e40.2.1
          repeat (first | (with_reducible refine then_ret ?_) | (with_reducible refine block_ret ?_))
          refine rett (rs := [.tmp 6, .tmp 7]) (vs := [.int .i64 0, .bool false]) Try.results131 ⟨s41_6, ⟨s42_7, trivial⟩⟩ (by simp) d40 ?_
          have x43 := (Touch.trans (Touch.trans (Touch.trans (Touch.trans (Touch.trans (Touch.trans (Touch.trans x0 (Ext.touch t1)) (Ext.touch t4)) (Ext.touch t6)) (Ext.touch t11)) (Ext.touch t21)) (Ext.touch t31)) (Ext.touch t40))
          exact ⟨by unfold short; rw [if_pos c7, if_neg (by rw [y12]; decide), if_neg (by rw [y22]; decide), if_neg c32], x43.ext⟩
  · have y7 := decide_eq_false c7
    have s44_25 : a6.eval (.tmp 25) = .bool (decide (kind = 0)) := e6.2.1
    refine wp_cond_false (s44_25.trans (by rw [y7])) ?_
    have s45_8 := ((q6 8 rfl).trans s5_8)
    refine rgs mixed 83 [.eq (.bool (decide (kind = 1))), .eq (.bool (decide (kind = 1)))] [[(8, none)], [(48, some 0)]] d6 z6 (by kernel_rfl) ⟨Ov rfl rfl fun _ _ T ⟨k8, _⟩ => ex_eql (k8.trans s45_8) rfl, Ov rfl rfl fun _ _ T ⟨k48, _⟩ => ex_assign k48, trivial⟩ ?_
    intro a46 w46 d46 z46 t46 e46 q46
    by_cases c47 : kind = 1
    · have y47 := decide_eq_true c47
      have s48_47 : a46.eval (.tmp 47) = .bool (decide (kind = 1)) := e46.2.1
      refine wp_cond_true (s48_47.trans (by rw [y47])) ?_
      refine wp_block ?_
      have s49_1 := ((q46 1 rfl).trans ((q6 1 rfl).trans ((q4 1 rfl).trans ((q1 1 rfl).trans s0_1))))
      have s50_2 := ((q46 2 rfl).trans ((q6 2 rfl).trans ((q4 2 rfl).trans ((q1 2 rfl).trans s0_2))))
      refine rgs mixed 83 [.eq (.int .i64 f), .eq (.bool (decide (f = 1))), .eq (.bool (decide (f = 1))), .eq (if (decide (f = 1)) = false then .int .i64 g else undef), .eq (if (decide (f = 1)) = false then .bool (decide (g = 1)) else undef), .eq (.bool ((decide (f = 1)) || (decide (g = 1)))), .eq (.bool ((decide (f = 1)) || (decide (g = 1))))] [[(1, none)], [(50, some 0)], [(51, some 1)], [(2, none), (52, some 2)], [(53, some 3), (52, some 2)], [(52, some 2), (54, some 4)], [(55, some 5)]] d46 z46 (by kernel_rfl) ⟨Ov rfl rfl fun _ _ T ⟨k1, _⟩ => ex_move (k1.trans s49_1),
        Ov rfl rfl fun _ _ T ⟨k50, _⟩ => ex_eql k50 rfl,
        Ov rfl rfl fun _ _ T ⟨k51, _⟩ => ex_move k51,
        Og rfl rfl rfl fun _ _ T ⟨k2, k52, _⟩ => ⟨k52, fun hcQ => ex_move (k2.trans s50_2)⟩,
        Og rfl rfl rfl fun _ _ T ⟨k53, k52, _⟩ => ⟨k52, fun hcQ => ex_eql (k53.trans (if_pos hcQ)) rfl⟩,
        Ov rfl rfl fun _ _ T ⟨k52, k54, _⟩ => ex_pick_or k52 rfl k54,
        Ov rfl rfl fun _ _ T ⟨k55, _⟩ => ex_assign k55,
        trivial⟩ ?_
      intro a51 w51 d51 z51 t51 e51 q51
      rcases Bool.eq_false_or_eq_true ((decide (f = 1)) || (decide (g = 1))) with y52 | y52
      · have c52 := y52; try simp only [Bool.and_eq_true, Bool.or_eq_true, Bool.and_eq_false_iff, Bool.or_eq_false_iff, Bool.not_eq_true', Bool.not_eq_false', decide_eq_true_eq, decide_eq_false_iff_not] at c52
        have s53_49 : a51.eval (.tmp 49) = .bool ((decide (f = 1)) || (decide (g = 1))) := e51.2.2.2.2.2.2.1
        refine wp_cond_true (s53_49.trans (by rw [y52])) ?_
        refine rgs mixed 83 [.eq (.int .i64 1), .eq (.bool true)] [[], []] d51 z51 (by kernel_rfl) ⟨Ov rfl rfl fun _ _ T _ => ex_assign rfl, Ov rfl rfl fun _ _ T _ => ex_assign rfl, trivial⟩ ?_
        intro a54 w54 d54 z54 t54 e54 q54
        refine wp_ret ?_
        have s55_6 : a54.eval (.tmp 6) = .int .i64 1 := e54.1
        have s56_7 : a54.eval (.tmp 7) = .bool true := e54.2.1
        repeat (first | (with_reducible refine then_ret ?_) | (with_reducible refine block_ret ?_))
        refine rett (rs := [.tmp 6, .tmp 7]) (vs := [.int .i64 1, .bool true]) Try.results131 ⟨s55_6, ⟨s56_7, trivial⟩⟩ (by simp) d54 ?_
        have x57 := (Touch.trans (Touch.trans (Touch.trans (Touch.trans (Touch.trans (Touch.trans x0 (Ext.touch t1)) (Ext.touch t4)) (Ext.touch t6)) (Ext.touch t46)) (Ext.touch t51)) (Ext.touch t54))
        exact ⟨by unfold short; rw [if_neg c7, if_pos c47, if_pos y52], x57.ext⟩
      · have c52 := y52; try simp only [Bool.and_eq_true, Bool.or_eq_true, Bool.and_eq_false_iff, Bool.or_eq_false_iff, Bool.not_eq_true', Bool.not_eq_false', decide_eq_true_eq, decide_eq_false_iff_not] at c52
        have s58_49 : a51.eval (.tmp 49) = .bool ((decide (f = 1)) || (decide (g = 1))) := e51.2.2.2.2.2.2.1
        refine wp_cond_false (s58_49.trans (by rw [y52])) ?_
        have s59_1 := ((q51 1 rfl).trans s49_1)
        have s60_2 := ((q51 2 rfl).trans s50_2)
        refine rgs mixed 83 [.eq (.int .i64 f), .eq (.bool (decide (f = 0))), .eq (.bool (decide (f = 0))), .eq (if (decide (f = 0)) = false then .int .i64 f else undef), .eq (if (decide (f = 0)) = false then .int .i64 g else undef), .eq (if (decide (f = 0)) = false then .bool (decide (f = g)) else undef), .eq (.bool ((decide (f = 0)) || (decide (f = g)))), .eq (.bool ((decide (f = 0)) || (decide (f = g))))] [[(1, none)], [(57, some 0)], [(58, some 1)], [(1, none), (59, some 2)], [(2, none), (59, some 2)], [(60, some 3), (61, some 4), (59, some 2)], [(59, some 2), (62, some 5)], [(63, some 6)]] d51 z51 (by kernel_rfl) ⟨Ov rfl rfl fun _ _ T ⟨k1, _⟩ => ex_move (k1.trans s59_1),
          Ov rfl rfl fun _ _ T ⟨k57, _⟩ => ex_eql k57 rfl,
          Ov rfl rfl fun _ _ T ⟨k58, _⟩ => ex_move k58,
          Og rfl rfl rfl fun _ _ T ⟨k1, k59, _⟩ => ⟨k59, fun hcQ => ex_move (k1.trans s59_1)⟩,
          Og rfl rfl rfl fun _ _ T ⟨k2, k59, _⟩ => ⟨k59, fun hcQ => ex_move (k2.trans s60_2)⟩,
          Og rfl rfl rfl fun _ _ T ⟨k60, k61, k59, _⟩ => ⟨k59, fun hcQ => ex_eql (k60.trans (if_pos hcQ)) (k61.trans (if_pos hcQ))⟩,
          Ov rfl rfl fun _ _ T ⟨k59, k62, _⟩ => ex_pick_or k59 rfl k62,
          Ov rfl rfl fun _ _ T ⟨k63, _⟩ => ex_assign k63,
          trivial⟩ ?_
        intro a61 w61 d61 z61 t61 e61 q61
        rcases Bool.eq_false_or_eq_true ((decide (f = 0)) || (decide (f = g))) with y62 | y62
        · have c62 := y62; try simp only [Bool.and_eq_true, Bool.or_eq_true, Bool.and_eq_false_iff, Bool.or_eq_false_iff, Bool.not_eq_true', Bool.not_eq_false', decide_eq_true_eq, decide_eq_false_iff_not] at c62
          have s63_56 : a61.eval (.tmp 56) = .bool ((decide (f = 0)) || (decide (f = g))) := e61.2.2.2.2.2.2.2.1
          refine wp_cond_true (s63_56.trans (by rw [y62])) ?_
          have s64_2 := ((q61 2 rfl).trans s60_2)
          refine rgs mixed 83 [.eq (.int .i64 g), .eq (.int .i64 g), .eq (.bool true)] [[(2, none)], [(64, some 0)], []] d61 z61 (by kernel_rfl) ⟨Ov rfl rfl fun _ _ T ⟨k2, _⟩ => ex_move (k2.trans s64_2), Ov rfl rfl fun _ _ T ⟨k64, _⟩ => ex_assign k64, Ov rfl rfl fun _ _ T _ => ex_assign rfl, trivial⟩ ?_
          intro a65 w65 d65 z65 t65 e65 q65
          refine wp_ret ?_
          have s66_6 : a65.eval (.tmp 6) = .int .i64 g := e65.2.1
          have s67_7 : a65.eval (.tmp 7) = .bool true := e65.2.2.1
          repeat (first | (with_reducible refine then_ret ?_) | (with_reducible refine block_ret ?_))
          refine rett (rs := [.tmp 6, .tmp 7]) (vs := [.int .i64 g, .bool true]) Try.results131 ⟨s66_6, ⟨s67_7, trivial⟩⟩ (by simp) d65 ?_
          have x68 := (Touch.trans (Touch.trans (Touch.trans (Touch.trans (Touch.trans (Touch.trans (Touch.trans x0 (Ext.touch t1)) (Ext.touch t4)) (Ext.touch t6)) (Ext.touch t46)) (Ext.touch t51)) (Ext.touch t61)) (Ext.touch t65))
          exact ⟨by unfold short; rw [if_neg c7, if_pos c47, if_neg (by rw [y52]; decide), if_pos y62], x68.ext⟩
        · have c62 := y62; try simp only [Bool.and_eq_true, Bool.or_eq_true, Bool.and_eq_false_iff, Bool.or_eq_false_iff, Bool.not_eq_true', Bool.not_eq_false', decide_eq_true_eq, decide_eq_false_iff_not] at c62
          have s69_56 : a61.eval (.tmp 56) = .bool ((decide (f = 0)) || (decide (f = g))) := e61.2.2.2.2.2.2.2.1
          refine wp_cond_false (s69_56.trans (by rw [y62])) ?_
          have s70_2 := ((q61 2 rfl).trans s60_2)
          refine rgs mixed 83 [.eq (.int .i64 g), .eq (.bool (decide (g = 0))), .eq (.bool (decide (g = 0)))] [[(2, none)], [(66, some 0)], [(67, some 1)]] d61 z61 (by kernel_rfl) ⟨Ov rfl rfl fun _ _ T ⟨k2, _⟩ => ex_move (k2.trans s70_2), Ov rfl rfl fun _ _ T ⟨k66, _⟩ => ex_eql k66 rfl, Ov rfl rfl fun _ _ T ⟨k67, _⟩ => ex_assign k67, trivial⟩ ?_
          intro a71 w71 d71 z71 t71 e71 q71
          by_cases c72 : g = 0
          · have y72 := decide_eq_true c72
            have s73_65 : a71.eval (.tmp 65) = .bool (decide (g = 0)) := e71.2.2.1
            refine wp_cond_true (s73_65.trans (by rw [y72])) ?_
            have s74_1 := ((q71 1 rfl).trans ((q61 1 rfl).trans s59_1))
            refine rgs mixed 83 [.eq (.int .i64 f), .eq (.int .i64 f), .eq (.bool true)] [[(1, none)], [(68, some 0)], []] d71 z71 (by kernel_rfl) ⟨Ov rfl rfl fun _ _ T ⟨k1, _⟩ => ex_move (k1.trans s74_1), Ov rfl rfl fun _ _ T ⟨k68, _⟩ => ex_assign k68, Ov rfl rfl fun _ _ T _ => ex_assign rfl, trivial⟩ ?_
            intro a75 w75 d75 z75 t75 e75 q75
            refine wp_ret ?_
            have s76_6 : a75.eval (.tmp 6) = .int .i64 f := e75.2.1
            have s77_7 : a75.eval (.tmp 7) = .bool true := e75.2.2.1
            repeat (first | (with_reducible refine then_ret ?_) | (with_reducible refine block_ret ?_))
            refine rett (rs := [.tmp 6, .tmp 7]) (vs := [.int .i64 f, .bool true]) Try.results131 ⟨s76_6, ⟨s77_7, trivial⟩⟩ (by simp) d75 ?_
            have x78 := (Touch.trans (Touch.trans (Touch.trans (Touch.trans (Touch.trans (Touch.trans (Touch.trans (Touch.trans x0 (Ext.touch t1)) (Ext.touch t4)) (Ext.touch t6)) (Ext.touch t46)) (Ext.touch t51)) (Ext.touch t61)) (Ext.touch t71)) (Ext.touch t75))
            exact ⟨by unfold short; rw [if_neg c7, if_pos c47, if_neg (by rw [y52]; decide), if_neg (by rw [y62]; decide), if_pos c72], x78.ext⟩
          · have y72 := decide_eq_false c72
            have s79_65 : a71.eval (.tmp 65) = .bool (decide (g = 0)) := e71.2.2.1
            refine wp_cond_false (s79_65.trans (by rw [y72])) ?_
            refine wp_skip ?_
            repeat (with_reducible refine block_norm ?_)
            refine hK2 _ _ ?_
            refine rgs mixed 83 [.eq (.int .i64 0), .eq (.bool false)] [[], []] d71 z71 (by kernel_rfl) ⟨Ov rfl rfl fun _ _ T _ => ex_assign rfl, Ov rfl rfl fun _ _ T _ => ex_assign rfl, trivial⟩ ?_
            intro a80 w80 d80 z80 t80 e80 q80
            refine wp_ret ?_
            have s81_6 : a80.eval (.tmp 6) = .int .i64 0 := e80.1
            have s82_7 : a80.eval (.tmp 7) = .bool false := e80.2.1
            repeat (first | (with_reducible refine then_ret ?_) | (with_reducible refine block_ret ?_))
            refine rett (rs := [.tmp 6, .tmp 7]) (vs := [.int .i64 0, .bool false]) Try.results131 ⟨s81_6, ⟨s82_7, trivial⟩⟩ (by simp) d80 ?_
            have x83 := (Touch.trans (Touch.trans (Touch.trans (Touch.trans (Touch.trans (Touch.trans (Touch.trans (Touch.trans x0 (Ext.touch t1)) (Ext.touch t4)) (Ext.touch t6)) (Ext.touch t46)) (Ext.touch t51)) (Ext.touch t61)) (Ext.touch t71)) (Ext.touch t80))
            exact ⟨by unfold short; rw [if_neg c7, if_pos c47, if_neg (by rw [y52]; decide), if_neg (by rw [y62]; decide), if_neg c72], x83.ext⟩
    · have y47 := decide_eq_false c47
      have s84_47 : a46.eval (.tmp 47) = .bool (decide (kind = 1)) := e46.2.1
      refine wp_cond_false (s84_47.trans (by rw [y47])) ?_
      have s85_8 := ((q46 8 rfl).trans s45_8)
      refine rgs mixed 83 [.eq (.bool (decide (kind = 2))), .eq (.bool (decide (kind = 2)))] [[(8, none)], [(70, some 0)]] d46 z46 (by kernel_rfl) ⟨Ov rfl rfl fun _ _ T ⟨k8, _⟩ => ex_eql (k8.trans s85_8) rfl, Ov rfl rfl fun _ _ T ⟨k70, _⟩ => ex_assign k70, trivial⟩ ?_
      intro a86 w86 d86 z86 t86 e86 q86
      by_cases c87 : kind = 2
      · have y87 := decide_eq_true c87
        have s88_69 : a86.eval (.tmp 69) = .bool (decide (kind = 2)) := e86.2.1
        refine wp_cond_true (s88_69.trans (by rw [y87])) ?_
        refine wp_block ?_
        have s89_1 := ((q86 1 rfl).trans ((q46 1 rfl).trans ((q6 1 rfl).trans ((q4 1 rfl).trans ((q1 1 rfl).trans s0_1)))))
        have s90_2 := ((q86 2 rfl).trans ((q46 2 rfl).trans ((q6 2 rfl).trans ((q4 2 rfl).trans ((q1 2 rfl).trans s0_2)))))
        refine rgs mixed 83 [.eq (.int .i64 f), .eq (.int .i64 g), .eq (.bool (decide (f = g))), .eq (.bool (decide (f = g)))] [[(1, none)], [(2, none)], [(72, some 0), (73, some 1)], [(74, some 2)]] d86 z86 (by kernel_rfl) ⟨Ov rfl rfl fun _ _ T ⟨k1, _⟩ => ex_move (k1.trans s89_1),
          Ov rfl rfl fun _ _ T ⟨k2, _⟩ => ex_move (k2.trans s90_2),
          Ov rfl rfl fun _ _ T ⟨k72, k73, _⟩ => ex_eql k72 k73,
          Ov rfl rfl fun _ _ T ⟨k74, _⟩ => ex_assign k74,
          trivial⟩ ?_
        intro a91 w91 d91 z91 t91 e91 q91
        by_cases c92 : f = g
        · have y92 := decide_eq_true c92
          have s93_71 : a91.eval (.tmp 71) = .bool (decide (f = g)) := e91.2.2.2.1
          refine wp_cond_true (s93_71.trans (by rw [y92])) ?_
          refine rgs mixed 83 [.eq (.int .i64 0), .eq (.bool true)] [[], []] d91 z91 (by kernel_rfl) ⟨Ov rfl rfl fun _ _ T _ => ex_assign rfl, Ov rfl rfl fun _ _ T _ => ex_assign rfl, trivial⟩ ?_
          intro a94 w94 d94 z94 t94 e94 q94
          refine wp_ret ?_
          have s95_6 : a94.eval (.tmp 6) = .int .i64 0 := e94.1
          have s96_7 : a94.eval (.tmp 7) = .bool true := e94.2.1
          repeat (first | (with_reducible refine then_ret ?_) | (with_reducible refine block_ret ?_))
          refine rett (rs := [.tmp 6, .tmp 7]) (vs := [.int .i64 0, .bool true]) Try.results131 ⟨s95_6, ⟨s96_7, trivial⟩⟩ (by simp) d94 ?_
          have x97 := (Touch.trans (Touch.trans (Touch.trans (Touch.trans (Touch.trans (Touch.trans (Touch.trans x0 (Ext.touch t1)) (Ext.touch t4)) (Ext.touch t6)) (Ext.touch t46)) (Ext.touch t86)) (Ext.touch t91)) (Ext.touch t94))
          exact ⟨by unfold short; rw [if_neg c7, if_neg c47, if_pos c87, if_pos c92], x97.ext⟩
        · have y92 := decide_eq_false c92
          have s98_71 : a91.eval (.tmp 71) = .bool (decide (f = g)) := e91.2.2.2.1
          refine wp_cond_false (s98_71.trans (by rw [y92])) ?_
          have s99_1 := ((q91 1 rfl).trans s89_1)
          refine rgs mixed 83 [.eq (.int .i64 f), .eq (.bool (decide (f = 0))), .eq (.bool (decide (f = 0)))] [[(1, none)], [(76, some 0)], [(77, some 1)]] d91 z91 (by kernel_rfl) ⟨Ov rfl rfl fun _ _ T ⟨k1, _⟩ => ex_move (k1.trans s99_1), Ov rfl rfl fun _ _ T ⟨k76, _⟩ => ex_eql k76 rfl, Ov rfl rfl fun _ _ T ⟨k77, _⟩ => ex_assign k77, trivial⟩ ?_
          intro a100 w100 d100 z100 t100 e100 q100
          by_cases c101 : f = 0
          · have y101 := decide_eq_true c101
            have s102_75 : a100.eval (.tmp 75) = .bool (decide (f = 0)) := e100.2.2.1
            refine wp_cond_true (s102_75.trans (by rw [y101])) ?_
            have s103_2 := ((q100 2 rfl).trans ((q91 2 rfl).trans s90_2))
            refine rgs mixed 83 [.eq (.int .i64 g), .eq (.int .i64 g), .eq (.bool true)] [[(2, none)], [(78, some 0)], []] d100 z100 (by kernel_rfl) ⟨Ov rfl rfl fun _ _ T ⟨k2, _⟩ => ex_move (k2.trans s103_2), Ov rfl rfl fun _ _ T ⟨k78, _⟩ => ex_assign k78, Ov rfl rfl fun _ _ T _ => ex_assign rfl, trivial⟩ ?_
            intro a104 w104 d104 z104 t104 e104 q104
            refine wp_ret ?_
            have s105_6 : a104.eval (.tmp 6) = .int .i64 g := e104.2.1
            have s106_7 : a104.eval (.tmp 7) = .bool true := e104.2.2.1
            repeat (first | (with_reducible refine then_ret ?_) | (with_reducible refine block_ret ?_))
            refine rett (rs := [.tmp 6, .tmp 7]) (vs := [.int .i64 g, .bool true]) Try.results131 ⟨s105_6, ⟨s106_7, trivial⟩⟩ (by simp) d104 ?_
            have x107 := (Touch.trans (Touch.trans (Touch.trans (Touch.trans (Touch.trans (Touch.trans (Touch.trans (Touch.trans x0 (Ext.touch t1)) (Ext.touch t4)) (Ext.touch t6)) (Ext.touch t46)) (Ext.touch t86)) (Ext.touch t91)) (Ext.touch t100)) (Ext.touch t104))
            exact ⟨by unfold short; rw [if_neg c7, if_neg c47, if_pos c87, if_neg c92, if_pos c101], x107.ext⟩
          · have y101 := decide_eq_false c101
            have s108_75 : a100.eval (.tmp 75) = .bool (decide (f = 0)) := e100.2.2.1
            refine wp_cond_false (s108_75.trans (by rw [y101])) ?_
            have s109_2 := ((q100 2 rfl).trans ((q91 2 rfl).trans s90_2))
            refine rgs mixed 83 [.eq (.int .i64 g), .eq (.bool (decide (g = 0))), .eq (.bool (decide (g = 0)))] [[(2, none)], [(80, some 0)], [(81, some 1)]] d100 z100 (by kernel_rfl) ⟨Ov rfl rfl fun _ _ T ⟨k2, _⟩ => ex_move (k2.trans s109_2), Ov rfl rfl fun _ _ T ⟨k80, _⟩ => ex_eql k80 rfl, Ov rfl rfl fun _ _ T ⟨k81, _⟩ => ex_assign k81, trivial⟩ ?_
            intro a110 w110 d110 z110 t110 e110 q110
            by_cases c111 : g = 0
            · have y111 := decide_eq_true c111
              have s112_79 : a110.eval (.tmp 79) = .bool (decide (g = 0)) := e110.2.2.1
              refine wp_cond_true (s112_79.trans (by rw [y111])) ?_
              have s113_1 := ((q110 1 rfl).trans ((q100 1 rfl).trans s99_1))
              refine rgs mixed 83 [.eq (.int .i64 f), .eq (.int .i64 f), .eq (.bool true)] [[(1, none)], [(82, some 0)], []] d110 z110 (by kernel_rfl) ⟨Ov rfl rfl fun _ _ T ⟨k1, _⟩ => ex_move (k1.trans s113_1), Ov rfl rfl fun _ _ T ⟨k82, _⟩ => ex_assign k82, Ov rfl rfl fun _ _ T _ => ex_assign rfl, trivial⟩ ?_
              intro a114 w114 d114 z114 t114 e114 q114
              refine wp_ret ?_
              have s115_6 : a114.eval (.tmp 6) = .int .i64 f := e114.2.1
              have s116_7 : a114.eval (.tmp 7) = .bool true := e114.2.2.1
              repeat (first | (with_reducible refine then_ret ?_) | (with_reducible refine block_ret ?_))
              refine rett (rs := [.tmp 6, .tmp 7]) (vs := [.int .i64 f, .bool true]) Try.results131 ⟨s115_6, ⟨s116_7, trivial⟩⟩ (by simp) d114 ?_
              have x117 := (Touch.trans (Touch.trans (Touch.trans (Touch.trans (Touch.trans (Touch.trans (Touch.trans (Touch.trans (Touch.trans x0 (Ext.touch t1)) (Ext.touch t4)) (Ext.touch t6)) (Ext.touch t46)) (Ext.touch t86)) (Ext.touch t91)) (Ext.touch t100)) (Ext.touch t110)) (Ext.touch t114))
              exact ⟨by unfold short; rw [if_neg c7, if_neg c47, if_pos c87, if_neg c92, if_neg c101, if_pos c111], x117.ext⟩
            · have y111 := decide_eq_false c111
              have s118_79 : a110.eval (.tmp 79) = .bool (decide (g = 0)) := e110.2.2.1
              refine wp_cond_false (s118_79.trans (by rw [y111])) ?_
              refine wp_skip ?_
              repeat (with_reducible refine block_norm ?_)
              refine hK2 _ _ ?_
              refine rgs mixed 83 [.eq (.int .i64 0), .eq (.bool false)] [[], []] d110 z110 (by kernel_rfl) ⟨Ov rfl rfl fun _ _ T _ => ex_assign rfl, Ov rfl rfl fun _ _ T _ => ex_assign rfl, trivial⟩ ?_
              intro a119 w119 d119 z119 t119 e119 q119
              refine wp_ret ?_
              have s120_6 : a119.eval (.tmp 6) = .int .i64 0 := e119.1
              have s121_7 : a119.eval (.tmp 7) = .bool false := e119.2.1
              repeat (first | (with_reducible refine then_ret ?_) | (with_reducible refine block_ret ?_))
              refine rett (rs := [.tmp 6, .tmp 7]) (vs := [.int .i64 0, .bool false]) Try.results131 ⟨s120_6, ⟨s121_7, trivial⟩⟩ (by simp) d119 ?_
              have x122 := (Touch.trans (Touch.trans (Touch.trans (Touch.trans (Touch.trans (Touch.trans (Touch.trans (Touch.trans (Touch.trans x0 (Ext.touch t1)) (Ext.touch t4)) (Ext.touch t6)) (Ext.touch t46)) (Ext.touch t86)) (Ext.touch t91)) (Ext.touch t100)) (Ext.touch t110)) (Ext.touch t119))
              exact ⟨by unfold short; rw [if_neg c7, if_neg c47, if_pos c87, if_neg c92, if_neg c101, if_neg c111], x122.ext⟩
      · have y87 := decide_eq_false c87
        have s123_69 : a86.eval (.tmp 69) = .bool (decide (kind = 2)) := e86.2.1
        refine wp_cond_false (s123_69.trans (by rw [y87])) ?_
        refine wp_block ?_
        have s124_1 := ((q86 1 rfl).trans ((q46 1 rfl).trans ((q6 1 rfl).trans ((q4 1 rfl).trans ((q1 1 rfl).trans s0_1)))))
        have s125_2 := ((q86 2 rfl).trans ((q46 2 rfl).trans ((q6 2 rfl).trans ((q4 2 rfl).trans ((q1 2 rfl).trans s0_2)))))
        refine rgs mixed 83 [.eq (.int .i64 f), .eq (.bool (decide (f = 0))), .eq (.bool (decide (f = 0))), .eq (if (decide (f = 0)) = false then .int .i64 g else undef), .eq (if (decide (f = 0)) = false then .bool (decide (g = 1)) else undef), .eq (.bool ((decide (f = 0)) || (decide (g = 1)))), .eq (.bool ((decide (f = 0)) || (decide (g = 1)))), .eq (if ((decide (f = 0)) || (decide (g = 1))) = false then .int .i64 f else undef), .eq (if ((decide (f = 0)) || (decide (g = 1))) = false then .int .i64 g else undef), .eq (if ((decide (f = 0)) || (decide (g = 1))) = false then .bool (decide (f = g)) else undef), .eq (.bool (((decide (f = 0)) || (decide (g = 1))) || (decide (f = g)))), .eq (.bool (((decide (f = 0)) || (decide (g = 1))) || (decide (f = g))))] [[(1, none)], [(10, some 0)], [(11, some 1)], [(2, none), (12, some 2)], [(13, some 3), (12, some 2)], [(12, some 2), (14, some 4)], [(15, some 5)], [(1, none), (16, some 6)], [(2, none), (16, some 6)], [(17, some 7), (18, some 8), (16, some 6)], [(16, some 6), (19, some 9)], [(20, some 10)]] d86 z86 (by kernel_rfl) ⟨Ov rfl rfl fun _ _ T ⟨k1, _⟩ => ex_move (k1.trans s124_1),
          Ov rfl rfl fun _ _ T ⟨k10, _⟩ => ex_eql k10 rfl,
          Ov rfl rfl fun _ _ T ⟨k11, _⟩ => ex_move k11,
          Og rfl rfl rfl fun _ _ T ⟨k2, k12, _⟩ => ⟨k12, fun hcQ => ex_move (k2.trans s125_2)⟩,
          Og rfl rfl rfl fun _ _ T ⟨k13, k12, _⟩ => ⟨k12, fun hcQ => ex_eql (k13.trans (if_pos hcQ)) rfl⟩,
          Ov rfl rfl fun _ _ T ⟨k12, k14, _⟩ => ex_pick_or k12 rfl k14,
          Ov rfl rfl fun _ _ T ⟨k15, _⟩ => ex_move k15,
          Og rfl rfl rfl fun _ _ T ⟨k1, k16, _⟩ => ⟨k16, fun hcQ => ex_move (k1.trans s124_1)⟩,
          Og rfl rfl rfl fun _ _ T ⟨k2, k16, _⟩ => ⟨k16, fun hcQ => ex_move (k2.trans s125_2)⟩,
          Og rfl rfl rfl fun _ _ T ⟨k17, k18, k16, _⟩ => ⟨k16, fun hcQ => ex_eql (k17.trans (if_pos hcQ)) (k18.trans (if_pos hcQ))⟩,
          Ov rfl rfl fun _ _ T ⟨k16, k19, _⟩ => ex_pick_or k16 rfl k19,
          Ov rfl rfl fun _ _ T ⟨k20, _⟩ => ex_assign k20,
          trivial⟩ ?_
        intro a126 w126 d126 z126 t126 e126 q126
        rcases Bool.eq_false_or_eq_true (((decide (f = 0)) || (decide (g = 1))) || (decide (f = g))) with y127 | y127
        · have c127 := y127; try simp only [Bool.and_eq_true, Bool.or_eq_true, Bool.and_eq_false_iff, Bool.or_eq_false_iff, Bool.not_eq_true', Bool.not_eq_false', decide_eq_true_eq, decide_eq_false_iff_not] at c127
          have s128_9 : a126.eval (.tmp 9) = .bool (((decide (f = 0)) || (decide (g = 1))) || (decide (f = g))) := e126.2.2.2.2.2.2.2.2.2.2.2.1
          refine wp_cond_true (s128_9.trans (by rw [y127])) ?_
          refine rgs mixed 83 [.eq (.int .i64 0), .eq (.bool true)] [[], []] d126 z126 (by kernel_rfl) ⟨Ov rfl rfl fun _ _ T _ => ex_assign rfl, Ov rfl rfl fun _ _ T _ => ex_assign rfl, trivial⟩ ?_
          intro a129 w129 d129 z129 t129 e129 q129
          refine wp_ret ?_
          have s130_6 : a129.eval (.tmp 6) = .int .i64 0 := e129.1
          have s131_7 : a129.eval (.tmp 7) = .bool true := e129.2.1
          repeat (first | (with_reducible refine then_ret ?_) | (with_reducible refine block_ret ?_))
          refine rett (rs := [.tmp 6, .tmp 7]) (vs := [.int .i64 0, .bool true]) Try.results131 ⟨s130_6, ⟨s131_7, trivial⟩⟩ (by simp) d129 ?_
          have x132 := (Touch.trans (Touch.trans (Touch.trans (Touch.trans (Touch.trans (Touch.trans (Touch.trans x0 (Ext.touch t1)) (Ext.touch t4)) (Ext.touch t6)) (Ext.touch t46)) (Ext.touch t86)) (Ext.touch t126)) (Ext.touch t129))
          exact ⟨by unfold short; rw [if_neg c7, if_neg c47, if_neg c87, if_pos y127], x132.ext⟩
        · have c127 := y127; try simp only [Bool.and_eq_true, Bool.or_eq_true, Bool.and_eq_false_iff, Bool.or_eq_false_iff, Bool.not_eq_true', Bool.not_eq_false', decide_eq_true_eq, decide_eq_false_iff_not] at c127
          have s133_9 : a126.eval (.tmp 9) = .bool (((decide (f = 0)) || (decide (g = 1))) || (decide (f = g))) := e126.2.2.2.2.2.2.2.2.2.2.2.1
          refine wp_cond_false (s133_9.trans (by rw [y127])) ?_
          have s134_2 := ((q126 2 rfl).trans s125_2)
          refine rgs mixed 83 [.eq (.int .i64 g), .eq (.bool (decide (g = 0))), .eq (.bool (decide (g = 0)))] [[(2, none)], [(22, some 0)], [(23, some 1)]] d126 z126 (by kernel_rfl) ⟨Ov rfl rfl fun _ _ T ⟨k2, _⟩ => ex_move (k2.trans s134_2), Ov rfl rfl fun _ _ T ⟨k22, _⟩ => ex_eql k22 rfl, Ov rfl rfl fun _ _ T ⟨k23, _⟩ => ex_assign k23, trivial⟩ ?_
          intro a135 w135 d135 z135 t135 e135 q135
          by_cases c136 : g = 0
          · have y136 := decide_eq_true c136
            have s137_21 : a135.eval (.tmp 21) = .bool (decide (g = 0)) := e135.2.2.1
            refine wp_cond_true (s137_21.trans (by rw [y136])) ?_
            have s138_1 := ((q135 1 rfl).trans ((q126 1 rfl).trans s124_1))
            refine rgs mixed 83 [.eq (.int .i64 f), .eq (.int .i64 f), .eq (.bool true)] [[(1, none)], [(24, some 0)], []] d135 z135 (by kernel_rfl) ⟨Ov rfl rfl fun _ _ T ⟨k1, _⟩ => ex_move (k1.trans s138_1), Ov rfl rfl fun _ _ T ⟨k24, _⟩ => ex_assign k24, Ov rfl rfl fun _ _ T _ => ex_assign rfl, trivial⟩ ?_
            intro a139 w139 d139 z139 t139 e139 q139
            refine wp_ret ?_
            have s140_6 : a139.eval (.tmp 6) = .int .i64 f := e139.2.1
            have s141_7 : a139.eval (.tmp 7) = .bool true := e139.2.2.1
            repeat (first | (with_reducible refine then_ret ?_) | (with_reducible refine block_ret ?_))
            refine rett (rs := [.tmp 6, .tmp 7]) (vs := [.int .i64 f, .bool true]) Try.results131 ⟨s140_6, ⟨s141_7, trivial⟩⟩ (by simp) d139 ?_
            have x142 := (Touch.trans (Touch.trans (Touch.trans (Touch.trans (Touch.trans (Touch.trans (Touch.trans (Touch.trans x0 (Ext.touch t1)) (Ext.touch t4)) (Ext.touch t6)) (Ext.touch t46)) (Ext.touch t86)) (Ext.touch t126)) (Ext.touch t135)) (Ext.touch t139))
            exact ⟨by unfold short; rw [if_neg c7, if_neg c47, if_neg c87, if_neg (by rw [y127]; decide), if_pos c136], x142.ext⟩
          · have y136 := decide_eq_false c136
            have s143_21 : a135.eval (.tmp 21) = .bool (decide (g = 0)) := e135.2.2.1
            refine wp_cond_false (s143_21.trans (by rw [y136])) ?_
            refine wp_skip ?_
            repeat (with_reducible refine block_norm ?_)
            refine hK2 _ _ ?_
            refine rgs mixed 83 [.eq (.int .i64 0), .eq (.bool false)] [[], []] d135 z135 (by kernel_rfl) ⟨Ov rfl rfl fun _ _ T _ => ex_assign rfl, Ov rfl rfl fun _ _ T _ => ex_assign rfl, trivial⟩ ?_
            intro a144 w144 d144 z144 t144 e144 q144
            refine wp_ret ?_
            have s145_6 : a144.eval (.tmp 6) = .int .i64 0 := e144.1
            have s146_7 : a144.eval (.tmp 7) = .bool false := e144.2.1
            repeat (first | (with_reducible refine then_ret ?_) | (with_reducible refine block_ret ?_))
            refine rett (rs := [.tmp 6, .tmp 7]) (vs := [.int .i64 0, .bool false]) Try.results131 ⟨s145_6, ⟨s146_7, trivial⟩⟩ (by simp) d144 ?_
            have x147 := (Touch.trans (Touch.trans (Touch.trans (Touch.trans (Touch.trans (Touch.trans (Touch.trans (Touch.trans x0 (Ext.touch t1)) (Ext.touch t4)) (Ext.touch t6)) (Ext.touch t46)) (Ext.touch t86)) (Ext.touch t126)) (Ext.touch t135)) (Ext.touch t144))
            exact ⟨by unfold short; rw [if_neg c7, if_neg c47, if_neg c87, if_neg (by rw [y127]; decide), if_neg c136], x147.ext⟩

def hbit (hd : Int) (hs : Int) (hp : Int) (hsp : Int) (hdp : Int) (i : Int) : Bool := if ((decide (i < 0)) || (decide (104 ≤ i))) = true then false else if i < 32 then decide ((ibits .and .u32 (hd.fdiv (2 ^ min (31 - i).toNat IntKind.u32.bits)) 1) = 1) else if i < 64 then decide ((ibits .and .u32 (hs.fdiv (2 ^ min (31 - (i - 32)).toNat IntKind.u32.bits)) 1) = 1) else if i < 72 then decide ((ibits .and .u8 (hp.fdiv (2 ^ min (7 - (i - 64)).toNat IntKind.u8.bits)) 1) = 1) else if i < 88 then decide ((ibits .and .u16 (hsp.fdiv (2 ^ min (15 - (i - 72)).toNat IntKind.u16.bits)) 1) = 1) else decide ((ibits .and .u16 (hdp.fdiv (2 ^ min (15 - (i - 88)).toNat IntKind.u16.bits)) 1) = 1)
set_option maxRecDepth 100000 in
set_option maxHeartbeats 4000000 in
theorem c_hbit (hd : Int) (hs : Int) (hp : Int) (hsp : Int) (hdp : Int) (i : Int) (w : World) : Calls Try.prog 61 #[.agg #[.int .u32 hd, .int .u32 hs, .int .u8 hp, .int .u16 hsp, .int .u16 hdp], .int .i64 i] w fun e w' => e = .returned (.bool (hbit hd hs hp hsp hdp i)) ∧ Ext w w' := by
  refine enter 63 Try.ntmps61 Try.func61 rfl (Nat.le_of_ble_eq_true rfl) fun a0 d0 z0 hargs => ?_
  have s0_0 : a0.eval (.tmp 0) = .agg #[.int .u32 hd, .int .u32 hs, .int .u8 hp, .int .u16 hsp, .int .u16 hdp] := hargs 0 _ rfl
  have s0_1 : a0.eval (.tmp 1) = .int .i64 i := hargs 1 _ rfl
  have x0 := Touch.refl NoF w
  refine wp_seq ?_
  refine seq_begin ?_
  refine sbox z0 rfl s0_0 ?_; intro b1 w1 a1 t1 g1 hb1 u1 z1
  have yb1_2 := Nat.le_trans (Touch.size x0) g1
  refine sp z1 rfl rfl (ex_assign rfl) ?_; intro a3 u3 z3
  have d4 := (u3.defs.trans (u1.defs.trans d0))
  refine seq_end ?_
  refine then_norm ?_
  refine wp_seq_k fun K5 hK5 => ?_
  refine wp_block ?_
  have s6_1 := ((u3.past 1 rfl).trans ((u1.past 1 rfl).trans s0_1))
  refine rgs mixed 63 [.eq (.int .i64 i), .eq (.bool (decide (i < 0))), .eq (.bool (decide (i < 0))), .eq (if (decide (i < 0)) = false then .int .i64 i else undef), .eq (if (decide (i < 0)) = false then .bool (decide (104 ≤ i)) else undef), .eq (.bool ((decide (i < 0)) || (decide (104 ≤ i)))), .eq (.bool ((decide (i < 0)) || (decide (104 ≤ i))))] [[(1, none)], [(6, some 0)], [(7, some 1)], [(1, none), (8, some 2)], [(9, some 3), (8, some 2)], [(8, some 2), (10, some 4)], [(11, some 5)]] d4 z3 (by kernel_rfl) ⟨Ov rfl rfl fun _ _ T ⟨k1, _⟩ => ex_move (k1.trans s6_1),
    Ov rfl rfl fun _ _ T ⟨k6, _⟩ => ex_lss k6 rfl,
    Ov rfl rfl fun _ _ T ⟨k7, _⟩ => ex_move k7,
    Og rfl rfl rfl fun _ _ T ⟨k1, k8, _⟩ => ⟨k8, fun hcQ => ex_move (k1.trans s6_1)⟩,
    Og rfl rfl rfl fun _ _ T ⟨k9, k8, _⟩ => ⟨k8, fun hcQ => ex_geq (k9.trans (if_pos hcQ)) rfl⟩,
    Ov rfl rfl fun _ _ T ⟨k8, k10, _⟩ => ex_pick_or k8 rfl k10,
    Ov rfl rfl fun _ _ T ⟨k11, _⟩ => ex_assign k11,
    trivial⟩ ?_
  intro a7 w7 d7 z7 t7 e7 q7
  rcases Bool.eq_false_or_eq_true ((decide (i < 0)) || (decide (104 ≤ i))) with y8 | y8
  · have c8 := y8; try simp only [Bool.and_eq_true, Bool.or_eq_true, Bool.and_eq_false_iff, Bool.or_eq_false_iff, Bool.not_eq_true', Bool.not_eq_false', decide_eq_true_eq, decide_eq_false_iff_not] at c8
    have s9_5 : a7.eval (.tmp 5) = .bool ((decide (i < 0)) || (decide (104 ≤ i))) := e7.2.2.2.2.2.2.1
    refine wp_cond_true (s9_5.trans (by rw [y8])) ?_
    refine rgs mixed 63 [.eq (.bool false)] [[]] d7 z7 (by kernel_rfl) ⟨Ov rfl rfl fun _ _ T _ => ex_assign rfl, trivial⟩ ?_
    intro a10 w10 d10 z10 t10 e10 q10
    refine wp_ret ?_
    have s11_4 : a10.eval (.tmp 4) = .bool false := e10.1
    repeat (first | (with_reducible refine then_ret ?_) | (with_reducible refine block_ret ?_))
    refine retl (rs := [.tmp 4]) Try.results61 ⟨s11_4, trivial⟩ d10 ?_
    have x12 := (Touch.trans (Touch.trans (Touch.trans x0 (Ext.touch t1)) (Ext.touch t7)) (Ext.touch t10))
    exact ⟨by unfold hbit; rw [if_pos y8], x12.ext⟩
  · have c8 := y8; try simp only [Bool.and_eq_true, Bool.or_eq_true, Bool.and_eq_false_iff, Bool.or_eq_false_iff, Bool.not_eq_true', Bool.not_eq_false', decide_eq_true_eq, decide_eq_false_iff_not] at c8
    have s13_5 : a7.eval (.tmp 5) = .bool ((decide (i < 0)) || (decide (104 ≤ i))) := e7.2.2.2.2.2.2.1
    refine wp_cond_false (s13_5.trans (by rw [y8])) ?_
    have s14_1 := ((q7 1 rfl).trans s6_1)
    refine rgs mixed 63 [.eq (.int .i64 i), .eq (.bool (decide (i < 32))), .eq (.bool (decide (i < 32)))] [[(1, none)], [(13, some 0)], [(14, some 1)]] d7 z7 (by kernel_rfl) ⟨Ov rfl rfl fun _ _ T ⟨k1, _⟩ => ex_move (k1.trans s14_1), Ov rfl rfl fun _ _ T ⟨k13, _⟩ => ex_lss k13 rfl, Ov rfl rfl fun _ _ T ⟨k14, _⟩ => ex_assign k14, trivial⟩ ?_
    intro a15 w15 d15 z15 t15 e15 q15
    by_cases c16 : i < 32
    · have y16 := decide_eq_true c16
      have s17_12 : a15.eval (.tmp 12) = .bool (decide (i < 32)) := e15.2.2.1
      refine wp_cond_true (s17_12.trans (by rw [y16])) ?_
      have s18_2 : a1.eval (.tmp 2) = .pointer (some ⟨b1, 0, none⟩) := (u1.here _ rfl)
      have s19_2 := ((q15 2 rfl).trans ((q7 2 rfl).trans ((u3.past 2 rfl).trans s18_2)))
      have hb1_20 := (Ext.keep t15 (Ext.keep t7 hb1))
      have s21_1 := ((q15 1 rfl).trans s14_1)
      refine rgs mixed 63 [.eq (.pointer (some ⟨b1, 0, none⟩)), .eq (.int .u32 hd), .eq (.int .i64 i), .eq (.int .i64 (31 - i)), .eq (.int .u32 (hd.fdiv (2 ^ min (31 - i).toNat IntKind.u32.bits))), .eq (.int .u32 (ibits .and .u32 (hd.fdiv (2 ^ min (31 - i).toNat IntKind.u32.bits)) 1)), .eq (.bool (decide ((ibits .and .u32 (hd.fdiv (2 ^ min (31 - i).toNat IntKind.u32.bits)) 1) = 1))), .eq (.bool (decide ((ibits .and .u32 (hd.fdiv (2 ^ min (31 - i).toNat IntKind.u32.bits)) 1) = 1)))] [[(2, none)], [(15, some 0)], [(1, none)], [(17, some 2)], [(16, some 1), (18, some 3)], [(19, some 4)], [(20, some 5)], [(21, some 6)]] d15 z15 (by kernel_rfl) ⟨Ov rfl rfl fun _ _ T ⟨k2, _⟩ => ex_fieldAddr (k2.trans s19_2) (fa_31_0 _ _ _),
        Ov rfl rfl fun _ _ T ⟨k15, _⟩ => ex_load k15 (Try.isAgg22 _) (cell_of (Ext.keep T.ext hb1_20) rfl),
        Ov rfl rfl fun _ _ T ⟨k1, _⟩ => ex_move (k1.trans s21_1),
        Ov rfl rfl fun _ _ T ⟨k17, _⟩ => ex_sub64 rfl k17 (by omega),
        Ov rfl rfl fun _ _ T ⟨k16, k18, _⟩ => ex_shr k16 k18 (by omega),
        Ov rfl rfl fun _ _ T ⟨k19, _⟩ => ex_and k19 rfl,
        Ov rfl rfl fun _ _ T ⟨k20, _⟩ => ex_eql k20 rfl,
        Ov rfl rfl fun _ _ T ⟨k21, _⟩ => ex_assign k21,
        trivial⟩ ?_
      intro a22 w22 d22 z22 t22 e22 q22
      refine wp_ret ?_
      have s23_4 : a22.eval (.tmp 4) = .bool (decide ((ibits .and .u32 (hd.fdiv (2 ^ min (31 - i).toNat IntKind.u32.bits)) 1) = 1)) := e22.2.2.2.2.2.2.2.1
      repeat (first | (with_reducible refine then_ret ?_) | (with_reducible refine block_ret ?_))
      refine retl (rs := [.tmp 4]) Try.results61 ⟨s23_4, trivial⟩ d22 ?_
      have x24 := (Touch.trans (Touch.trans (Touch.trans (Touch.trans x0 (Ext.touch t1)) (Ext.touch t7)) (Ext.touch t15)) (Ext.touch t22))
      exact ⟨by unfold hbit; rw [if_neg (by rw [y8]; decide), if_pos c16], x24.ext⟩
    · have y16 := decide_eq_false c16
      have s25_12 : a15.eval (.tmp 12) = .bool (decide (i < 32)) := e15.2.2.1
      refine wp_cond_false (s25_12.trans (by rw [y16])) ?_
      have s26_1 := ((q15 1 rfl).trans s14_1)
      refine rgs mixed 63 [.eq (.int .i64 i), .eq (.bool (decide (i < 64))), .eq (.bool (decide (i < 64)))] [[(1, none)], [(23, some 0)], [(24, some 1)]] d15 z15 (by kernel_rfl) ⟨Ov rfl rfl fun _ _ T ⟨k1, _⟩ => ex_move (k1.trans s26_1), Ov rfl rfl fun _ _ T ⟨k23, _⟩ => ex_lss k23 rfl, Ov rfl rfl fun _ _ T ⟨k24, _⟩ => ex_assign k24, trivial⟩ ?_
      intro a27 w27 d27 z27 t27 e27 q27
      by_cases c28 : i < 64
      · have y28 := decide_eq_true c28
        have s29_22 : a27.eval (.tmp 22) = .bool (decide (i < 64)) := e27.2.2.1
        refine wp_cond_true (s29_22.trans (by rw [y28])) ?_
        have s30_2 : a1.eval (.tmp 2) = .pointer (some ⟨b1, 0, none⟩) := (u1.here _ rfl)
        have s31_2 := ((q27 2 rfl).trans ((q15 2 rfl).trans ((q7 2 rfl).trans ((u3.past 2 rfl).trans s30_2))))
        have hb1_32 := (Ext.keep t27 (Ext.keep t15 (Ext.keep t7 hb1)))
        have s33_1 := ((q27 1 rfl).trans s26_1)
        refine rgs mixed 63 [.eq (.pointer (some ⟨b1, 1, none⟩)), .eq (.int .u32 hs), .eq (.int .i64 i), .eq (.int .i64 (i - 32)), .eq (.int .i64 (31 - (i - 32))), .eq (.int .u32 (hs.fdiv (2 ^ min (31 - (i - 32)).toNat IntKind.u32.bits))), .eq (.int .u32 (ibits .and .u32 (hs.fdiv (2 ^ min (31 - (i - 32)).toNat IntKind.u32.bits)) 1)), .eq (.bool (decide ((ibits .and .u32 (hs.fdiv (2 ^ min (31 - (i - 32)).toNat IntKind.u32.bits)) 1) = 1))), .eq (.bool (decide ((ibits .and .u32 (hs.fdiv (2 ^ min (31 - (i - 32)).toNat IntKind.u32.bits)) 1) = 1)))] [[(2, none)], [(25, some 0)], [(1, none)], [(27, some 2)], [(28, some 3)], [(26, some 1), (29, some 4)], [(30, some 5)], [(31, some 6)], [(32, some 7)]] d27 z27 (by kernel_rfl) ⟨Ov rfl rfl fun _ _ T ⟨k2, _⟩ => ex_fieldAddr (k2.trans s31_2) (fa_31_1 _ _ _),
          Ov rfl rfl fun _ _ T ⟨k25, _⟩ => ex_load k25 (Try.isAgg22 _) (cell_of (Ext.keep T.ext hb1_32) rfl),
          Ov rfl rfl fun _ _ T ⟨k1, _⟩ => ex_move (k1.trans s33_1),
          Ov rfl rfl fun _ _ T ⟨k27, _⟩ => ex_sub64 k27 rfl (by omega),
          Ov rfl rfl fun _ _ T ⟨k28, _⟩ => ex_sub64 rfl k28 (by omega),
          Ov rfl rfl fun _ _ T ⟨k26, k29, _⟩ => ex_shr k26 k29 (by omega),
          Ov rfl rfl fun _ _ T ⟨k30, _⟩ => ex_and k30 rfl,
          Ov rfl rfl fun _ _ T ⟨k31, _⟩ => ex_eql k31 rfl,
          Ov rfl rfl fun _ _ T ⟨k32, _⟩ => ex_assign k32,
          trivial⟩ ?_
        intro a34 w34 d34 z34 t34 e34 q34
        refine wp_ret ?_
        have s35_4 : a34.eval (.tmp 4) = .bool (decide ((ibits .and .u32 (hs.fdiv (2 ^ min (31 - (i - 32)).toNat IntKind.u32.bits)) 1) = 1)) := e34.2.2.2.2.2.2.2.2.1
        repeat (first | (with_reducible refine then_ret ?_) | (with_reducible refine block_ret ?_))
        refine retl (rs := [.tmp 4]) Try.results61 ⟨s35_4, trivial⟩ d34 ?_
        have x36 := (Touch.trans (Touch.trans (Touch.trans (Touch.trans (Touch.trans x0 (Ext.touch t1)) (Ext.touch t7)) (Ext.touch t15)) (Ext.touch t27)) (Ext.touch t34))
        exact ⟨by unfold hbit; rw [if_neg (by rw [y8]; decide), if_neg c16, if_pos c28], x36.ext⟩
      · have y28 := decide_eq_false c28
        have s37_22 : a27.eval (.tmp 22) = .bool (decide (i < 64)) := e27.2.2.1
        refine wp_cond_false (s37_22.trans (by rw [y28])) ?_
        have s38_1 := ((q27 1 rfl).trans s26_1)
        refine rgs mixed 63 [.eq (.int .i64 i), .eq (.bool (decide (i < 72))), .eq (.bool (decide (i < 72)))] [[(1, none)], [(34, some 0)], [(35, some 1)]] d27 z27 (by kernel_rfl) ⟨Ov rfl rfl fun _ _ T ⟨k1, _⟩ => ex_move (k1.trans s38_1), Ov rfl rfl fun _ _ T ⟨k34, _⟩ => ex_lss k34 rfl, Ov rfl rfl fun _ _ T ⟨k35, _⟩ => ex_assign k35, trivial⟩ ?_
        intro a39 w39 d39 z39 t39 e39 q39
        by_cases c40 : i < 72
        · have y40 := decide_eq_true c40
          have s41_33 : a39.eval (.tmp 33) = .bool (decide (i < 72)) := e39.2.2.1
          refine wp_cond_true (s41_33.trans (by rw [y40])) ?_
          have s42_2 : a1.eval (.tmp 2) = .pointer (some ⟨b1, 0, none⟩) := (u1.here _ rfl)
          have s43_2 := ((q39 2 rfl).trans ((q27 2 rfl).trans ((q15 2 rfl).trans ((q7 2 rfl).trans ((u3.past 2 rfl).trans s42_2)))))
          have hb1_44 := (Ext.keep t39 (Ext.keep t27 (Ext.keep t15 (Ext.keep t7 hb1))))
          have s45_1 := ((q39 1 rfl).trans s38_1)
          refine rgs mixed 63 [.eq (.pointer (some ⟨b1, 2, none⟩)), .eq (.int .u8 hp), .eq (.int .i64 i), .eq (.int .i64 (i - 64)), .eq (.int .i64 (7 - (i - 64))), .eq (.int .u8 (hp.fdiv (2 ^ min (7 - (i - 64)).toNat IntKind.u8.bits))), .eq (.int .u8 (ibits .and .u8 (hp.fdiv (2 ^ min (7 - (i - 64)).toNat IntKind.u8.bits)) 1)), .eq (.bool (decide ((ibits .and .u8 (hp.fdiv (2 ^ min (7 - (i - 64)).toNat IntKind.u8.bits)) 1) = 1))), .eq (.bool (decide ((ibits .and .u8 (hp.fdiv (2 ^ min (7 - (i - 64)).toNat IntKind.u8.bits)) 1) = 1)))] [[(2, none)], [(36, some 0)], [(1, none)], [(38, some 2)], [(39, some 3)], [(37, some 1), (40, some 4)], [(41, some 5)], [(42, some 6)], [(43, some 7)]] d39 z39 (by kernel_rfl) ⟨Ov rfl rfl fun _ _ T ⟨k2, _⟩ => ex_fieldAddr (k2.trans s43_2) (fa_31_2 _ _ _),
            Ov rfl rfl fun _ _ T ⟨k36, _⟩ => ex_load k36 (Try.isAgg5 _) (cell_of (Ext.keep T.ext hb1_44) rfl),
            Ov rfl rfl fun _ _ T ⟨k1, _⟩ => ex_move (k1.trans s45_1),
            Ov rfl rfl fun _ _ T ⟨k38, _⟩ => ex_sub64 k38 rfl (by omega),
            Ov rfl rfl fun _ _ T ⟨k39, _⟩ => ex_sub64 rfl k39 (by omega),
            Ov rfl rfl fun _ _ T ⟨k37, k40, _⟩ => ex_shr k37 k40 (by omega),
            Ov rfl rfl fun _ _ T ⟨k41, _⟩ => ex_and k41 rfl,
            Ov rfl rfl fun _ _ T ⟨k42, _⟩ => ex_eql k42 rfl,
            Ov rfl rfl fun _ _ T ⟨k43, _⟩ => ex_assign k43,
            trivial⟩ ?_
          intro a46 w46 d46 z46 t46 e46 q46
          refine wp_ret ?_
          have s47_4 : a46.eval (.tmp 4) = .bool (decide ((ibits .and .u8 (hp.fdiv (2 ^ min (7 - (i - 64)).toNat IntKind.u8.bits)) 1) = 1)) := e46.2.2.2.2.2.2.2.2.1
          repeat (first | (with_reducible refine then_ret ?_) | (with_reducible refine block_ret ?_))
          refine retl (rs := [.tmp 4]) Try.results61 ⟨s47_4, trivial⟩ d46 ?_
          have x48 := (Touch.trans (Touch.trans (Touch.trans (Touch.trans (Touch.trans (Touch.trans x0 (Ext.touch t1)) (Ext.touch t7)) (Ext.touch t15)) (Ext.touch t27)) (Ext.touch t39)) (Ext.touch t46))
          exact ⟨by unfold hbit; rw [if_neg (by rw [y8]; decide), if_neg c16, if_neg c28, if_pos c40], x48.ext⟩
        · have y40 := decide_eq_false c40
          have s49_33 : a39.eval (.tmp 33) = .bool (decide (i < 72)) := e39.2.2.1
          refine wp_cond_false (s49_33.trans (by rw [y40])) ?_
          have s50_1 := ((q39 1 rfl).trans s38_1)
          refine rgs mixed 63 [.eq (.int .i64 i), .eq (.bool (decide (i < 88))), .eq (.bool (decide (i < 88)))] [[(1, none)], [(45, some 0)], [(46, some 1)]] d39 z39 (by kernel_rfl) ⟨Ov rfl rfl fun _ _ T ⟨k1, _⟩ => ex_move (k1.trans s50_1), Ov rfl rfl fun _ _ T ⟨k45, _⟩ => ex_lss k45 rfl, Ov rfl rfl fun _ _ T ⟨k46, _⟩ => ex_assign k46, trivial⟩ ?_
          intro a51 w51 d51 z51 t51 e51 q51
          by_cases c52 : i < 88
          · have y52 := decide_eq_true c52
            have s53_44 : a51.eval (.tmp 44) = .bool (decide (i < 88)) := e51.2.2.1
            refine wp_cond_true (s53_44.trans (by rw [y52])) ?_
            have s54_2 : a1.eval (.tmp 2) = .pointer (some ⟨b1, 0, none⟩) := (u1.here _ rfl)
            have s55_2 := ((q51 2 rfl).trans ((q39 2 rfl).trans ((q27 2 rfl).trans ((q15 2 rfl).trans ((q7 2 rfl).trans ((u3.past 2 rfl).trans s54_2))))))
            have hb1_56 := (Ext.keep t51 (Ext.keep t39 (Ext.keep t27 (Ext.keep t15 (Ext.keep t7 hb1)))))
            have s57_1 := ((q51 1 rfl).trans s50_1)
            refine rgs mixed 63 [.eq (.pointer (some ⟨b1, 3, none⟩)), .eq (.int .u16 hsp), .eq (.int .i64 i), .eq (.int .i64 (i - 72)), .eq (.int .i64 (15 - (i - 72))), .eq (.int .u16 (hsp.fdiv (2 ^ min (15 - (i - 72)).toNat IntKind.u16.bits))), .eq (.int .u16 (ibits .and .u16 (hsp.fdiv (2 ^ min (15 - (i - 72)).toNat IntKind.u16.bits)) 1)), .eq (.bool (decide ((ibits .and .u16 (hsp.fdiv (2 ^ min (15 - (i - 72)).toNat IntKind.u16.bits)) 1) = 1))), .eq (.bool (decide ((ibits .and .u16 (hsp.fdiv (2 ^ min (15 - (i - 72)).toNat IntKind.u16.bits)) 1) = 1)))] [[(2, none)], [(47, some 0)], [(1, none)], [(49, some 2)], [(50, some 3)], [(48, some 1), (51, some 4)], [(52, some 5)], [(53, some 6)], [(54, some 7)]] d51 z51 (by kernel_rfl) ⟨Ov rfl rfl fun _ _ T ⟨k2, _⟩ => ex_fieldAddr (k2.trans s55_2) (fa_31_3 _ _ _),
              Ov rfl rfl fun _ _ T ⟨k47, _⟩ => ex_load k47 (Try.isAgg25 _) (cell_of (Ext.keep T.ext hb1_56) rfl),
              Ov rfl rfl fun _ _ T ⟨k1, _⟩ => ex_move (k1.trans s57_1),
              Ov rfl rfl fun _ _ T ⟨k49, _⟩ => ex_sub64 k49 rfl (by omega),
              Ov rfl rfl fun _ _ T ⟨k50, _⟩ => ex_sub64 rfl k50 (by omega),
              Ov rfl rfl fun _ _ T ⟨k48, k51, _⟩ => ex_shr k48 k51 (by omega),
              Ov rfl rfl fun _ _ T ⟨k52, _⟩ => ex_and k52 rfl,
              Ov rfl rfl fun _ _ T ⟨k53, _⟩ => ex_eql k53 rfl,
              Ov rfl rfl fun _ _ T ⟨k54, _⟩ => ex_assign k54,
              trivial⟩ ?_
            intro a58 w58 d58 z58 t58 e58 q58
            refine wp_ret ?_
            have s59_4 : a58.eval (.tmp 4) = .bool (decide ((ibits .and .u16 (hsp.fdiv (2 ^ min (15 - (i - 72)).toNat IntKind.u16.bits)) 1) = 1)) := e58.2.2.2.2.2.2.2.2.1
            repeat (first | (with_reducible refine then_ret ?_) | (with_reducible refine block_ret ?_))
            refine retl (rs := [.tmp 4]) Try.results61 ⟨s59_4, trivial⟩ d58 ?_
            have x60 := (Touch.trans (Touch.trans (Touch.trans (Touch.trans (Touch.trans (Touch.trans (Touch.trans x0 (Ext.touch t1)) (Ext.touch t7)) (Ext.touch t15)) (Ext.touch t27)) (Ext.touch t39)) (Ext.touch t51)) (Ext.touch t58))
            exact ⟨by unfold hbit; rw [if_neg (by rw [y8]; decide), if_neg c16, if_neg c28, if_neg c40, if_pos c52], x60.ext⟩
          · have y52 := decide_eq_false c52
            have s61_44 : a51.eval (.tmp 44) = .bool (decide (i < 88)) := e51.2.2.1
            refine wp_cond_false (s61_44.trans (by rw [y52])) ?_
            refine wp_skip ?_
            repeat (with_reducible refine block_norm ?_)
            refine hK5 _ _ ?_
            have s62_2 : a1.eval (.tmp 2) = .pointer (some ⟨b1, 0, none⟩) := (u1.here _ rfl)
            have s63_2 := ((q51 2 rfl).trans ((q39 2 rfl).trans ((q27 2 rfl).trans ((q15 2 rfl).trans ((q7 2 rfl).trans ((u3.past 2 rfl).trans s62_2))))))
            have hb1_64 := (Ext.keep t51 (Ext.keep t39 (Ext.keep t27 (Ext.keep t15 (Ext.keep t7 hb1)))))
            have s65_1 := ((q51 1 rfl).trans s50_1)
            refine rgs mixed 63 [.eq (.pointer (some ⟨b1, 4, none⟩)), .eq (.int .u16 hdp), .eq (.int .i64 i), .eq (.int .i64 (i - 88)), .eq (.int .i64 (15 - (i - 88))), .eq (.int .u16 (hdp.fdiv (2 ^ min (15 - (i - 88)).toNat IntKind.u16.bits))), .eq (.int .u16 (ibits .and .u16 (hdp.fdiv (2 ^ min (15 - (i - 88)).toNat IntKind.u16.bits)) 1)), .eq (.bool (decide ((ibits .and .u16 (hdp.fdiv (2 ^ min (15 - (i - 88)).toNat IntKind.u16.bits)) 1) = 1))), .eq (.bool (decide ((ibits .and .u16 (hdp.fdiv (2 ^ min (15 - (i - 88)).toNat IntKind.u16.bits)) 1) = 1)))] [[(2, none)], [(55, some 0)], [(1, none)], [(57, some 2)], [(58, some 3)], [(56, some 1), (59, some 4)], [(60, some 5)], [(61, some 6)], [(62, some 7)]] d51 z51 (by kernel_rfl) ⟨Ov rfl rfl fun _ _ T ⟨k2, _⟩ => ex_fieldAddr (k2.trans s63_2) (fa_31_4 _ _ _),
              Ov rfl rfl fun _ _ T ⟨k55, _⟩ => ex_load k55 (Try.isAgg25 _) (cell_of (Ext.keep T.ext hb1_64) rfl),
              Ov rfl rfl fun _ _ T ⟨k1, _⟩ => ex_move (k1.trans s65_1),
              Ov rfl rfl fun _ _ T ⟨k57, _⟩ => ex_sub64 k57 rfl (by omega),
              Ov rfl rfl fun _ _ T ⟨k58, _⟩ => ex_sub64 rfl k58 (by omega),
              Ov rfl rfl fun _ _ T ⟨k56, k59, _⟩ => ex_shr k56 k59 (by omega),
              Ov rfl rfl fun _ _ T ⟨k60, _⟩ => ex_and k60 rfl,
              Ov rfl rfl fun _ _ T ⟨k61, _⟩ => ex_eql k61 rfl,
              Ov rfl rfl fun _ _ T ⟨k62, _⟩ => ex_assign k62,
              trivial⟩ ?_
            intro a66 w66 d66 z66 t66 e66 q66
            refine wp_ret ?_
            have s67_4 : a66.eval (.tmp 4) = .bool (decide ((ibits .and .u16 (hdp.fdiv (2 ^ min (15 - (i - 88)).toNat IntKind.u16.bits)) 1) = 1)) := e66.2.2.2.2.2.2.2.2.1
            repeat (first | (with_reducible refine then_ret ?_) | (with_reducible refine block_ret ?_))
            refine retl (rs := [.tmp 4]) Try.results61 ⟨s67_4, trivial⟩ d66 ?_
            have x68 := (Touch.trans (Touch.trans (Touch.trans (Touch.trans (Touch.trans (Touch.trans (Touch.trans x0 (Ext.touch t1)) (Ext.touch t7)) (Ext.touch t15)) (Ext.touch t27)) (Ext.touch t39)) (Ext.touch t51)) (Ext.touch t66))
            exact ⟨by unfold hbit; rw [if_neg (by rw [y8]; decide), if_neg c16, if_neg c28, if_neg c40, if_neg c52], x68.ext⟩

def wup (ch : Int) (cl : Int) (n : Int) : Int × Int := if ((decide (n < 0)) || (decide (128 ≤ n))) = true then (0, 0) else if 64 ≤ n then (IntKind.u64.wrap (cl * 2 ^ min (n - 64).toNat IntKind.u64.bits), 0) else if n = 0 then (ch, cl) else (ibits .or .u64 (IntKind.u64.wrap (ch * 2 ^ min (n).toNat IntKind.u64.bits)) (cl.fdiv (2 ^ min (64 - n).toNat IntKind.u64.bits)), IntKind.u64.wrap (cl * 2 ^ min (n).toNat IntKind.u64.bits))
set_option maxRecDepth 100000 in
set_option maxHeartbeats 4000000 in
theorem c_wup (ch : Int) (cl : Int) (n : Int) (w : World) : Calls Try.prog 77 #[.agg #[.int .u64 ch, .int .u64 cl], .int .i64 n] w fun e w' => e = .returned (.agg #[.int .u64 (wup ch cl n).1, .int .u64 (wup ch cl n).2]) ∧ Ext w w' := by
  refine enter 41 Try.ntmps77 Try.func77 rfl (Nat.le_of_ble_eq_true rfl) fun a0 d0 z0 hargs => ?_
  have s0_0 : a0.eval (.tmp 0) = .agg #[.int .u64 ch, .int .u64 cl] := hargs 0 _ rfl
  have s0_1 : a0.eval (.tmp 1) = .int .i64 n := hargs 1 _ rfl
  have x0 := Touch.refl NoF w
  refine wp_seq ?_
  refine seq_begin ?_
  refine sbox z0 rfl s0_0 ?_; intro b1 w1 a1 t1 g1 hb1 u1 z1
  have yb1_2 := Nat.le_trans (Touch.size x0) g1
  refine salloc z1 rfl (zv_57 _) ?_; intro b3 w3 a3 t3 g3 hb3 u3 z3
  have n4_b1_b3 := ne_lt (lt_of hb1) g3
  have x6 := (Touch.trans x0 (Ext.touch t1))
  have yb3_5 := Nat.le_trans (Touch.size x6) g3
  have d7 := (u3.defs.trans (u1.defs.trans d0))
  refine seq_end ?_
  refine then_norm ?_
  refine wp_seq_k fun K8 hK8 => ?_
  refine wp_block ?_
  have s9_1 := ((u3.past 1 rfl).trans ((u1.past 1 rfl).trans s0_1))
  refine rgs mixed 41 [.eq (.int .i64 n), .eq (.bool (decide (n < 0))), .eq (.bool (decide (n < 0))), .eq (if (decide (n < 0)) = false then .int .i64 n else undef), .eq (if (decide (n < 0)) = false then .bool (decide (128 ≤ n)) else undef), .eq (.bool ((decide (n < 0)) || (decide (128 ≤ n)))), .eq (.bool ((decide (n < 0)) || (decide (128 ≤ n))))] [[(1, none)], [(6, some 0)], [(7, some 1)], [(1, none), (8, some 2)], [(9, some 3), (8, some 2)], [(8, some 2), (10, some 4)], [(11, some 5)]] d7 z3 (by kernel_rfl) ⟨Ov rfl rfl fun _ _ T ⟨k1, _⟩ => ex_move (k1.trans s9_1),
    Ov rfl rfl fun _ _ T ⟨k6, _⟩ => ex_lss k6 rfl,
    Ov rfl rfl fun _ _ T ⟨k7, _⟩ => ex_move k7,
    Og rfl rfl rfl fun _ _ T ⟨k1, k8, _⟩ => ⟨k8, fun hcQ => ex_move (k1.trans s9_1)⟩,
    Og rfl rfl rfl fun _ _ T ⟨k9, k8, _⟩ => ⟨k8, fun hcQ => ex_geq (k9.trans (if_pos hcQ)) rfl⟩,
    Ov rfl rfl fun _ _ T ⟨k8, k10, _⟩ => ex_pick_or k8 rfl k10,
    Ov rfl rfl fun _ _ T ⟨k11, _⟩ => ex_assign k11,
    trivial⟩ ?_
  intro a10 w10 d10 z10 t10 e10 q10
  rcases Bool.eq_false_or_eq_true ((decide (n < 0)) || (decide (128 ≤ n))) with y11 | y11
  · have c11 := y11; try simp only [Bool.and_eq_true, Bool.or_eq_true, Bool.and_eq_false_iff, Bool.or_eq_false_iff, Bool.not_eq_true', Bool.not_eq_false', decide_eq_true_eq, decide_eq_false_iff_not] at c11
    have s12_5 : a10.eval (.tmp 5) = .bool ((decide (n < 0)) || (decide (128 ≤ n))) := e10.2.2.2.2.2.2.1
    refine wp_cond_true (s12_5.trans (by rw [y11])) ?_
    refine wp_seq ?_
    refine seq_begin ?_
    refine sp z10 rfl rfl (exl_build nil_parts (bd_57_ _)) ?_; intro a13 u13 z13
    have hb3_15 := (Ext.keep t10 hb3)
    refine sstore (cs := [.int .u64 0, .int .u64 0]) (vs := [.int .u64 0, .int .u64 0]) (cs' := [.int .u64 0, .int .u64 0]) z13 rfl ((u13.past 4 rfl).trans ((q10 4 rfl).trans (u3.here _ rfl))) (u13.here _ rfl) hb3_15 (Try.sizeOf57 _) rfl rfl (by decide) (Nat.le_of_ble_eq_true rfl) rfl rfl ?_; intro w14 a14 t14 u14 z14
    have d16 := (u14.defs.trans (u13.defs.trans d10))
    refine seq_end ?_
    refine then_norm ?_
    refine wp_ret ?_
    have s17_4 : a3.eval (.tmp 4) = .pointer (some ⟨b3, 0, none⟩) := (u3.here _ rfl)
    have s18_4 := ((u14.past 4 rfl).trans ((u13.past 4 rfl).trans ((q10 4 rfl).trans s17_4)))
    repeat (first | (with_reducible refine then_ret ?_) | (with_reducible refine block_ret ?_))
    refine retl (rs := [.cell 4 57]) Try.results77 ⟨⟨_, s18_4, run_loadVarA (cs := [.int .u64 0, .int .u64 0]) (Try.isAgg57 _) (Try.sizeOf57 _) (cells_of (off := 0) t14.here rfl)⟩, trivial⟩ d16 ?_
    have x19 := (Touch.turn (Touch.trans (Touch.trans x6 (Ext.touch t3)) (Ext.touch t10)) t14 (Or.inr yb3_5))
    exact ⟨by unfold wup; rw [if_pos y11], x19.ext⟩
  · have c11 := y11; try simp only [Bool.and_eq_true, Bool.or_eq_true, Bool.and_eq_false_iff, Bool.or_eq_false_iff, Bool.not_eq_true', Bool.not_eq_false', decide_eq_true_eq, decide_eq_false_iff_not] at c11
    have s20_5 : a10.eval (.tmp 5) = .bool ((decide (n < 0)) || (decide (128 ≤ n))) := e10.2.2.2.2.2.2.1
    refine wp_cond_false (s20_5.trans (by rw [y11])) ?_
    have s21_1 := ((q10 1 rfl).trans s9_1)
    refine rgs mixed 41 [.eq (.int .i64 n), .eq (.bool (decide (64 ≤ n))), .eq (.bool (decide (64 ≤ n)))] [[(1, none)], [(14, some 0)], [(15, some 1)]] d10 z10 (by kernel_rfl) ⟨Ov rfl rfl fun _ _ T ⟨k1, _⟩ => ex_move (k1.trans s21_1), Ov rfl rfl fun _ _ T ⟨k14, _⟩ => ex_geq k14 rfl, Ov rfl rfl fun _ _ T ⟨k15, _⟩ => ex_assign k15, trivial⟩ ?_
    intro a22 w22 d22 z22 t22 e22 q22
    by_cases c23 : 64 ≤ n
    · have y23 := decide_eq_true c23
      have s24_13 : a22.eval (.tmp 13) = .bool (decide (64 ≤ n)) := e22.2.2.1
      refine wp_cond_true (s24_13.trans (by rw [y23])) ?_
      refine wp_seq ?_
      refine seq_begin ?_
      refine sp z22 rfl rfl (ex_fieldAddr ((q22 2 rfl).trans ((q10 2 rfl).trans ((u3.past 2 rfl).trans (u1.here _ rfl)))) (fa_57_1 _ _ _)) ?_; intro a25 u25 z25
      have hb1_27 := (Ext.keep t22 (Ext.keep t10 (Ext.keep t3 hb1)))
      refine sp z25 rfl rfl (ex_load (u25.here _ rfl) (Try.isAgg55 _) (cell_of hb1_27 rfl)) ?_; intro a26 u26 z26
      refine sp z26 rfl rfl (ex_move ((u26.past 1 rfl).trans ((u25.past 1 rfl).trans ((q22 1 rfl).trans s21_1)))) ?_; intro a28 u28 z28
      refine sp z28 rfl rfl (ex_sub64 (u28.here _ rfl) rfl (by omega)) ?_; intro a29 u29 z29
      refine sp z29 rfl rfl (ex_shl ((u29.past 17 rfl).trans ((u28.past 17 rfl).trans (u26.here _ rfl))) (u29.here _ rfl) (by omega)) ?_; intro a30 u30 z30
      refine sp z30 rfl rfl (exl_build (cons_parts (u30.here _ rfl) nil_parts) (bd_57_0Iu64 (IntKind.u64.wrap (cl * 2 ^ min (n - 64).toNat IntKind.u64.bits)) _)) ?_; intro a31 u31 z31
      have hb3_33 := (Ext.keep t22 (Ext.keep t10 hb3))
      refine sstore (cs := [.int .u64 0, .int .u64 0]) (vs := [.int .u64 (IntKind.u64.wrap (cl * 2 ^ min (n - 64).toNat IntKind.u64.bits)), .int .u64 0]) (cs' := [.int .u64 (IntKind.u64.wrap (cl * 2 ^ min (n - 64).toNat IntKind.u64.bits)), .int .u64 0]) z31 rfl ((u31.past 4 rfl).trans ((u30.past 4 rfl).trans ((u29.past 4 rfl).trans ((u28.past 4 rfl).trans ((u26.past 4 rfl).trans ((u25.past 4 rfl).trans ((q22 4 rfl).trans ((q10 4 rfl).trans (u3.here _ rfl))))))))) (u31.here _ rfl) hb3_33 (Try.sizeOf57 _) rfl rfl (by decide) (Nat.le_of_ble_eq_true rfl) rfl rfl ?_; intro w32 a32 t32 u32 z32
      have d34 := (u32.defs.trans (u31.defs.trans (u30.defs.trans (u29.defs.trans (u28.defs.trans (u26.defs.trans (u25.defs.trans d22)))))))
      refine seq_end ?_
      refine then_norm ?_
      refine wp_ret ?_
      have s35_4 : a3.eval (.tmp 4) = .pointer (some ⟨b3, 0, none⟩) := (u3.here _ rfl)
      have s36_4 := ((u32.past 4 rfl).trans ((u31.past 4 rfl).trans ((u30.past 4 rfl).trans ((u29.past 4 rfl).trans ((u28.past 4 rfl).trans ((u26.past 4 rfl).trans ((u25.past 4 rfl).trans ((q22 4 rfl).trans ((q10 4 rfl).trans s35_4)))))))))
      repeat (first | (with_reducible refine then_ret ?_) | (with_reducible refine block_ret ?_))
      refine retl (rs := [.cell 4 57]) Try.results77 ⟨⟨_, s36_4, run_loadVarA (cs := [.int .u64 (IntKind.u64.wrap (cl * 2 ^ min (n - 64).toNat IntKind.u64.bits)), .int .u64 0]) (Try.isAgg57 _) (Try.sizeOf57 _) (cells_of (off := 0) t32.here rfl)⟩, trivial⟩ d34 ?_
      have x37 := (Touch.turn (Touch.trans (Touch.trans (Touch.trans x6 (Ext.touch t3)) (Ext.touch t10)) (Ext.touch t22)) t32 (Or.inr yb3_5))
      exact ⟨by unfold wup; rw [if_neg (by rw [y11]; decide), if_pos c23], x37.ext⟩
    · have y23 := decide_eq_false c23
      have s38_13 : a22.eval (.tmp 13) = .bool (decide (64 ≤ n)) := e22.2.2.1
      refine wp_cond_false (s38_13.trans (by rw [y23])) ?_
      have s39_1 := ((q22 1 rfl).trans s21_1)
      refine rgs mixed 41 [.eq (.int .i64 n), .eq (.bool (decide (n = 0))), .eq (.bool (decide (n = 0)))] [[(1, none)], [(23, some 0)], [(24, some 1)]] d22 z22 (by kernel_rfl) ⟨Ov rfl rfl fun _ _ T ⟨k1, _⟩ => ex_move (k1.trans s39_1), Ov rfl rfl fun _ _ T ⟨k23, _⟩ => ex_eql k23 rfl, Ov rfl rfl fun _ _ T ⟨k24, _⟩ => ex_assign k24, trivial⟩ ?_
      intro a40 w40 d40 z40 t40 e40 q40
      by_cases c41 : n = 0
      · have y41 := decide_eq_true c41
        have s42_22 : a40.eval (.tmp 22) = .bool (decide (n = 0)) := e40.2.2.1
        refine wp_cond_true (s42_22.trans (by rw [y41])) ?_
        refine wp_seq ?_
        refine seq_begin ?_
        have hb1_44 := (Ext.keep t40 (Ext.keep t22 (Ext.keep t10 (Ext.keep t3 hb1))))
        refine sp z40 rfl rfl (ex_loadAgg (cs := [.int .u64 ch, .int .u64 cl]) ((q40 2 rfl).trans ((q22 2 rfl).trans ((q10 2 rfl).trans ((u3.past 2 rfl).trans (u1.here _ rfl))))) (Try.isAgg57 _) (Try.sizeOf57 _) (cells_of (off := 0) hb1_44 rfl)) ?_; intro a43 u43 z43
        have hb3_46 := (Ext.keep t40 (Ext.keep t22 (Ext.keep t10 hb3)))
        refine sstore (cs := [.int .u64 0, .int .u64 0]) (vs := [.int .u64 ch, .int .u64 cl]) (cs' := [.int .u64 ch, .int .u64 cl]) z43 rfl ((u43.past 4 rfl).trans ((q40 4 rfl).trans ((q22 4 rfl).trans ((q10 4 rfl).trans (u3.here _ rfl))))) (u43.here _ rfl) hb3_46 (Try.sizeOf57 _) rfl rfl (by decide) (Nat.le_of_ble_eq_true rfl) rfl rfl ?_; intro w45 a45 t45 u45 z45
        have d47 := (u45.defs.trans (u43.defs.trans d40))
        refine seq_end ?_
        refine then_norm ?_
        refine wp_ret ?_
        have s48_4 : a3.eval (.tmp 4) = .pointer (some ⟨b3, 0, none⟩) := (u3.here _ rfl)
        have s49_4 := ((u45.past 4 rfl).trans ((u43.past 4 rfl).trans ((q40 4 rfl).trans ((q22 4 rfl).trans ((q10 4 rfl).trans s48_4)))))
        repeat (first | (with_reducible refine then_ret ?_) | (with_reducible refine block_ret ?_))
        refine retl (rs := [.cell 4 57]) Try.results77 ⟨⟨_, s49_4, run_loadVarA (cs := [.int .u64 ch, .int .u64 cl]) (Try.isAgg57 _) (Try.sizeOf57 _) (cells_of (off := 0) t45.here rfl)⟩, trivial⟩ d47 ?_
        have x50 := (Touch.turn (Touch.trans (Touch.trans (Touch.trans (Touch.trans x6 (Ext.touch t3)) (Ext.touch t10)) (Ext.touch t22)) (Ext.touch t40)) t45 (Or.inr yb3_5))
        exact ⟨by unfold wup; rw [if_neg (by rw [y11]; decide), if_neg c23, if_pos c41], x50.ext⟩
      · have y41 := decide_eq_false c41
        have s51_22 : a40.eval (.tmp 22) = .bool (decide (n = 0)) := e40.2.2.1
        refine wp_cond_false (s51_22.trans (by rw [y41])) ?_
        refine wp_skip ?_
        repeat (with_reducible refine block_norm ?_)
        refine hK8 _ _ ?_
        have s52_2 : a1.eval (.tmp 2) = .pointer (some ⟨b1, 0, none⟩) := (u1.here _ rfl)
        have s53_2 := ((q40 2 rfl).trans ((q22 2 rfl).trans ((q10 2 rfl).trans ((u3.past 2 rfl).trans s52_2))))
        have hb1_54 := (Ext.keep t40 (Ext.keep t22 (Ext.keep t10 (Ext.keep t3 hb1))))
        have s55_1 := ((q40 1 rfl).trans s39_1)
        have hb3_56 := (Ext.keep t40 (Ext.keep t22 (Ext.keep t10 hb3)))
        have s57_4 : a3.eval (.tmp 4) = .pointer (some ⟨b3, 0, none⟩) := (u3.here _ rfl)
        have s58_4 := ((q40 4 rfl).trans ((q22 4 rfl).trans ((q10 4 rfl).trans s57_4)))
        refine wp_seq ?_
        refine rt mixed 41 b3 15 _ [.eq (.pointer (some ⟨b1, 0, none⟩)), .eq (.int .u64 ch), .eq (.int .i64 n), .eq (.int .u64 (IntKind.u64.wrap (ch * 2 ^ min (n).toNat IntKind.u64.bits))), .eq (.pointer (some ⟨b1, 1, none⟩)), .eq (.int .u64 cl), .eq (.int .i64 n), .eq (.int .i64 (64 - n)), .eq (.int .u64 (cl.fdiv (2 ^ min (64 - n).toNat IntKind.u64.bits))), .eq (.int .u64 (ibits .or .u64 (IntKind.u64.wrap (ch * 2 ^ min (n).toNat IntKind.u64.bits)) (cl.fdiv (2 ^ min (64 - n).toNat IntKind.u64.bits)))), .eq (.pointer (some ⟨b1, 1, none⟩)), .eq (.int .u64 cl), .eq (.int .i64 n), .eq (.int .u64 (IntKind.u64.wrap (cl * 2 ^ min (n).toNat IntKind.u64.bits))), .eq (.agg #[.int .u64 (ibits .or .u64 (IntKind.u64.wrap (ch * 2 ^ min (n).toNat IntKind.u64.bits)) (cl.fdiv (2 ^ min (64 - n).toNat IntKind.u64.bits))), .int .u64 (IntKind.u64.wrap (cl * 2 ^ min (n).toNat IntKind.u64.bits))]), .any] [[(2, none)], [(26, some 0)], [(1, none)], [(27, some 1), (28, some 2)], [(2, none)], [(30, some 4)], [(1, none)], [(32, some 6)], [(31, some 5), (33, some 7)], [(29, some 3), (34, some 8)], [(2, none)], [(36, some 10)], [(1, none)], [(37, some 11), (38, some 12)], [(35, some 9), (39, some 13)], [(4, none), (40, some 14)]] d40 z40 (by kernel_rfl) rfl ⟨Oh rfl (by kernel_rfl) rfl fun _ _ T ⟨k2, _⟩ => ex_fieldAddr (k2.trans s53_2) (fa_57_0 _ _ _),
          Oh rfl (by kernel_rfl) rfl fun _ _ T ⟨k26, _⟩ => ex_load k26 (Try.isAgg55 _) (cell_of (Ext.keep T hb1_54) rfl),
          Oh rfl (by kernel_rfl) rfl fun _ _ T ⟨k1, _⟩ => ex_move (k1.trans s55_1),
          Oh rfl (by kernel_rfl) rfl fun _ _ T ⟨k27, k28, _⟩ => ex_shl k27 k28 (by omega),
          Oh rfl (by kernel_rfl) rfl fun _ _ T ⟨k2, _⟩ => ex_fieldAddr (k2.trans s53_2) (fa_57_1 _ _ _),
          Oh rfl (by kernel_rfl) rfl fun _ _ T ⟨k30, _⟩ => ex_load k30 (Try.isAgg55 _) (cell_of (Ext.keep T hb1_54) rfl),
          Oh rfl (by kernel_rfl) rfl fun _ _ T ⟨k1, _⟩ => ex_move (k1.trans s55_1),
          Oh rfl (by kernel_rfl) rfl fun _ _ T ⟨k32, _⟩ => ex_sub64 rfl k32 (by omega),
          Oh rfl (by kernel_rfl) rfl fun _ _ T ⟨k31, k33, _⟩ => ex_shr k31 k33 (by omega),
          Oh rfl (by kernel_rfl) rfl fun _ _ T ⟨k29, k34, _⟩ => ex_or k29 k34,
          Oh rfl (by kernel_rfl) rfl fun _ _ T ⟨k2, _⟩ => ex_fieldAddr (k2.trans s53_2) (fa_57_1 _ _ _),
          Oh rfl (by kernel_rfl) rfl fun _ _ T ⟨k36, _⟩ => ex_load k36 (Try.isAgg55 _) (cell_of (Ext.keep T hb1_54) rfl),
          Oh rfl (by kernel_rfl) rfl fun _ _ T ⟨k1, _⟩ => ex_move (k1.trans s55_1),
          Oh rfl (by kernel_rfl) rfl fun _ _ T ⟨k37, k38, _⟩ => ex_shl k37 k38 (by omega),
          Oh rfl (by kernel_rfl) rfl fun _ _ T ⟨k35, k39, _⟩ => exl_build (cons_parts k35 (cons_parts k39 nil_parts)) (bd_57_0Iu64_1Iu64 (ibits .or .u64 (IntKind.u64.wrap (ch * 2 ^ min (n).toNat IntKind.u64.bits)) (cl.fdiv (2 ^ min (64 - n).toNat IntKind.u64.bits))) (IntKind.u64.wrap (cl * 2 ^ min (n).toNat IntKind.u64.bits)) _),
          Ot (cs := [.int .u64 0, .int .u64 0]) (vs := [.int .u64 (ibits .or .u64 (IntKind.u64.wrap (ch * 2 ^ min (n).toNat IntKind.u64.bits)) (cl.fdiv (2 ^ min (64 - n).toNat IntKind.u64.bits))), .int .u64 (IntKind.u64.wrap (cl * 2 ^ min (n).toNat IntKind.u64.bits))]) (cs' := [.int .u64 (ibits .or .u64 (IntKind.u64.wrap (ch * 2 ^ min (n).toNat IntKind.u64.bits)) (cl.fdiv (2 ^ min (64 - n).toNat IntKind.u64.bits))), .int .u64 (IntKind.u64.wrap (cl * 2 ^ min (n).toNat IntKind.u64.bits))]) (by kernel_rfl) hb3_56 Try.sizeOf57 rfl rfl (by decide) (Nat.le_of_ble_eq_true rfl) rfl rfl fun _ _ T ⟨k4, k40, _⟩ => ⟨(k4.trans s58_4), k40⟩,
          trivial⟩ ?_
        intro a59 w59 d59 z59 t59 e59 q59
        refine wp_ret ?_
        have s60_4 := ((q59 4 rfl).trans s58_4)
        repeat (first | (with_reducible refine then_ret ?_) | (with_reducible refine block_ret ?_))
        refine retl (rs := [.cell 4 57]) Try.results77 ⟨⟨_, s60_4, run_loadVarA (cs := [.int .u64 (ibits .or .u64 (IntKind.u64.wrap (ch * 2 ^ min (n).toNat IntKind.u64.bits)) (cl.fdiv (2 ^ min (64 - n).toNat IntKind.u64.bits))), .int .u64 (IntKind.u64.wrap (cl * 2 ^ min (n).toNat IntKind.u64.bits))]) (Try.isAgg57 _) (Try.sizeOf57 _) (cells_of (off := 0) t59.here rfl)⟩, trivial⟩ d59 ?_
        have x61 := (Touch.turn (Touch.trans (Touch.trans (Touch.trans (Touch.trans x6 (Ext.touch t3)) (Ext.touch t10)) (Ext.touch t22)) (Ext.touch t40)) t59 (Or.inr yb3_5))
        exact ⟨by unfold wup; rw [if_neg (by rw [y11]; decide), if_neg c23, if_neg c41], x61.ext⟩

def wpow (n : Int) : Int × Int := ((wup ((wof 1).1) ((wof 1).2) n).1, (wup ((wof 1).1) ((wof 1).2) n).2)
set_option maxRecDepth 100000 in
set_option maxHeartbeats 4000000 in
theorem c_wpow (n : Int) (w : World) : Calls Try.prog 67 #[.int .i64 n] w fun e w' => e = .returned (.agg #[.int .u64 (wpow n).1, .int .u64 (wpow n).2]) ∧ Ext w w' := by
  refine enter 6 Try.ntmps67 Try.func67 rfl (Nat.le_of_ble_eq_true rfl) fun a0 d0 z0 hargs => ?_
  have s0_0 : a0.eval (.tmp 0) = .int .i64 n := hargs 0 _ rfl
  have x0 := Touch.refl NoF w
  refine wp_seq ?_
  refine seq_begin ?_
  refine salloc z0 rfl (zv_57 _) ?_; intro b1 w1 a1 t1 g1 hb1 u1 z1
  have yb1_2 := Nat.le_trans (Touch.size x0) g1
  have d3 := (u1.defs.trans d0)
  refine seq_end ?_
  refine then_norm ?_
  refine wp_seq ?_
  refine seq_begin ?_
  refine scx z1 rfl rfl (exl_call Try.func105 rfl rfl (cons_ops rfl nil_ops)) (c_wof 1  _) ?_; intro w4 a4 t4 u4 z4
  refine sp z4 rfl rfl (ex_move ((u4.past 0 rfl).trans ((u1.past 0 rfl).trans s0_0))) ?_; intro a5 u5 z5
  refine scx z5 rfl rfl (exl_call Try.func77 rfl rfl (cons_ops ((u5.past 3 rfl).trans (u4.here _ rfl)) (cons_ops (u5.here _ rfl) nil_ops))) (c_wup ((wof 1).1) ((wof 1).2) n  _) ?_; intro w6 a6 t6 u6 z6
  have hb1_8 := (Ext.keep t6 (Ext.keep t4 hb1))
  refine sstore (cs := [.int .u64 0, .int .u64 0]) (vs := [.int .u64 ((wup ((wof 1).1) ((wof 1).2) n).1), .int .u64 ((wup ((wof 1).1) ((wof 1).2) n).2)]) (cs' := [.int .u64 ((wup ((wof 1).1) ((wof 1).2) n).1), .int .u64 ((wup ((wof 1).1) ((wof 1).2) n).2)]) z6 rfl ((u6.past 2 rfl).trans ((u5.past 2 rfl).trans ((u4.past 2 rfl).trans (u1.here _ rfl)))) (u6.here _ rfl) hb1_8 (Try.sizeOf57 _) rfl rfl (by decide) (Nat.le_of_ble_eq_true rfl) rfl rfl ?_; intro w7 a7 t7 u7 z7
  have d9 := (u7.defs.trans (u6.defs.trans (u5.defs.trans (u4.defs.trans d3))))
  refine seq_end ?_
  refine then_norm ?_
  refine wp_ret ?_
  have s10_2 : a1.eval (.tmp 2) = .pointer (some ⟨b1, 0, none⟩) := (u1.here _ rfl)
  have s11_2 := ((u7.past 2 rfl).trans ((u6.past 2 rfl).trans ((u5.past 2 rfl).trans ((u4.past 2 rfl).trans s10_2))))
  repeat (first | (with_reducible refine then_ret ?_) | (with_reducible refine block_ret ?_))
  refine retl (rs := [.cell 2 57]) Try.results67 ⟨⟨_, s11_2, run_loadVarA (cs := [.int .u64 ((wup ((wof 1).1) ((wof 1).2) n).1), .int .u64 ((wup ((wof 1).1) ((wof 1).2) n).2)]) (Try.isAgg57 _) (Try.sizeOf57 _) (cells_of (off := 0) t7.here rfl)⟩, trivial⟩ d9 ?_
  have x12 := (Touch.turn (Touch.trans (Touch.trans (Touch.trans x0 (Ext.touch t1)) (Ext.touch t4)) (Ext.touch t6)) t7 (Or.inr yb1_2))
  exact ⟨by unfold wpow; rfl, x12.ext⟩

end Go.Proofs.Yticodddigaiipaa
