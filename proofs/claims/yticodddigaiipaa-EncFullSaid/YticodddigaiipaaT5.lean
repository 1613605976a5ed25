/-
  Contracts of functions of the given program, each proved by a walk through its code: what a call answers, and what it leaves of memory; conditions: those ahead of each theorem's colon.
-/
import Derived.Test.YticodddigaiipaaT4
import Derived.Test.YticodddigaiipaaL3
set_option linter.unusedVariables false
set_option linter.unusedSimpArgs false
namespace Go.Proofs.Yticodddigaiipaa
open Go.RowKit
theorem bd_119_0Ii64 (x0 : Int) (w : World) : (Instr.build 119 #[(0, .int .i64 x0)]).run Try.prog w = .ok (.agg #[.int .i64 x0, .int .i64 0, .int .i64 0]) w := by kernel_rfl
theorem bs_120_2_0AIi64Ii64Ii64E_1AIi64Ii64Ii64E (x0 : Int) (x1 : Int) (x2 : Int) (x3 : Int) (x4 : Int) (x5 : Int) (w : World) : (Instr.buildSlice 120 2 #[(0, .agg #[.int .i64 x0, .int .i64 x1, .int .i64 x2]), (1, .agg #[.int .i64 x3, .int .i64 x4, .int .i64 x5])]).run Try.prog w = .ok (.slice (some ⟨w.heap.size, 0, none⟩) 2 2) (w.alloc (.cells #[.int .i64 x0, .int .i64 x1, .int .i64 x2, .int .i64 x3, .int .i64 x4, .int .i64 x5] 119)) := by kernel_rfl
theorem bd_123_0S_1M_2Ii64 (x0 : Option Addr) (x1 : Nat) (x2 : Nat) (x3 : Option Nat) (x4 : Int) (w : World) : (Instr.build 123 #[(0, .slice x0 x1 x2), (1, .map x3), (2, .int .i64 x4)]).run Try.prog w = .ok (.agg #[.slice x0 x1 x2, .map x3, .int .i64 x4]) w := by kernel_rfl
theorem bd_133_0Ii64_1B (x0 : Int) (x1 : Bool) (w : World) : (Instr.build 133 #[(0, .int .i64 x0), (1, .bool x1)]).run Try.prog w = .ok (.agg #[.int .i64 x0, .bool x1]) w := by kernel_rfl
theorem bs_128_1_0AIi64BE (x0 : Int) (x1 : Bool) (w : World) : (Instr.buildSlice 128 1 #[(0, .agg #[.int .i64 x0, .bool x1])]).run Try.prog w = .ok (.slice (some ⟨w.heap.size, 0, none⟩) 1 1) (w.alloc (.cells #[.int .i64 x0, .bool x1] 133)) := by kernel_rfl
theorem el_128 : ElemOk Try.prog 128 133 2 16 := elemOk (z := .agg #[.int .i64 0, .bool false]) Try.underlying128 (by kernel_rfl) rfl (by decide)
theorem zv_133 (w : World) : (zeroValue 133).run Try.prog w = .ok (.agg #[.int .i64 0, .bool false]) w := by kernel_rfl
theorem fa_133_0 (b off : Nat) (w : World) : (Instr.fieldAt 133 (.pointer (some ⟨b, off, none⟩)) 0).run Try.prog w = .ok (.pointer (some ⟨b, off, none⟩)) w := by kernel_rfl
theorem fa_133_1 (b off : Nat) (w : World) : (Instr.fieldAt 133 (.pointer (some ⟨b, off, none⟩)) 1).run Try.prog w = .ok (.pointer (some ⟨b, off + 1, none⟩)) w := by kernel_rfl
theorem cv_25_3 {n : Int} {w : World} : (convert 25 3 (.int .u16 n)).run Try.prog w = .ok (.int .i64 (IntKind.i64.wrap n)) w := run_conv Try.underlying25 Try.underlying3
theorem cvn_25_3 {n : Int} {w : World} (h : -9223372036854775808 ≤ n ∧ n ≤ 9223372036854775807) : (convert 25 3 (.int .u16 n)).run Try.prog w = .ok (.int .i64 n) w := by rw [cv_25_3, wrap_i64 h]
theorem cv_3_25 {n : Int} {w : World} : (convert 3 25 (.int .i64 n)).run Try.prog w = .ok (.int .u16 (IntKind.u16.wrap n)) w := run_conv Try.underlying3 Try.underlying25
theorem cvn_3_25 {n : Int} {w : World} (h : 0 ≤ n ∧ n ≤ 65535) : (convert 3 25 (.int .i64 n)).run Try.prog w = .ok (.int .u16 n) w := by rw [cv_3_25, wrap_u16 h]
theorem bd_191_0Iu16_1Ii64 (x0 : Int) (x1 : Int) (w : World) : (Instr.build 191 #[(0, .int .u16 x0), (1, .int .i64 x1)]).run Try.prog w = .ok (.agg #[.int .u16 x0, .int .i64 x1]) w := by kernel_rfl
theorem bs_188_1_0AIu16Ii64E (x0 : Int) (x1 : Int) (w : World) : (Instr.buildSlice 188 1 #[(0, .agg #[.int .u16 x0, .int .i64 x1])]).run Try.prog w = .ok (.slice (some ⟨w.heap.size, 0, none⟩) 1 1) (w.alloc (.cells #[.int .u16 x0, .int .i64 x1] 191)) := by kernel_rfl
theorem el_188 : ElemOk Try.prog 188 191 2 16 := elemOk (z := .agg #[.int .u16 0, .int .i64 0]) Try.underlying188 (by kernel_rfl) rfl (by decide)

def lvs_ (x : Int × Bool) : List Value := [.int .i64 x.1, .bool x.2]
theorem lvs2 : ∀ x, (lvs_ x).length = 2 := fun _ => rfl
/-- bit i of n, from the highest -/
def litBit (x n i : Int) : Bool := decide (ibits .and .u32 (x.fdiv (2 ^ min (n - 1 - i).toNat IntKind.u32.bits)) 1 = 1)
def litL (base x n : Int) (k : Nat) : List (Int × Bool) := (List.range k).map fun i : Nat => (base + (i : Int), litBit x n i)
theorem litL_succ (base x n : Int) (k : Nat) : litL base x n (k + 1) = litL base x n k ++ [(base + k, litBit x n k)] := by simp [litL, List.range_succ]
theorem litL_len (base x n : Int) (k : Nat) : (litL base x n k).length = k := by simp [litL]
theorem wf_new : Wf [n0, n0] where
  len := Nat.le_refl _
  lo := rfl
  hi := rfl
  node i h2 hl := by simp at hl; omega
  nodup := by simp
theorem ix_new : ixOf [n0, n0] = fun _ => none := rfl

set_option maxRecDepth 100000 in
set_option maxHeartbeats 4000000 in
theorem c_New {w : World} (most : Int) (h2 : 2 ≤ most) (hm : most ≤ 262144) : Calls Try.prog 14 #[.int .i64 most] w fun e w' => ∃ b Fp, e = .returned (.tuple #[.pointer (some ⟨b, 0, none⟩), .int .i64 0]) ∧ ArenaAt w' b Fp [n0, n0] most ∧ Ext w w' ∧ ∀ j, Fp j → w.heap.size ≤ j := by
  refine enter 19 Try.ntmps14 Try.func14 rfl (Nat.le_of_ble_eq_true rfl) fun a0 d0 z0 hargs => ?_
  have s0_0 : a0.eval (.tmp 0) = .int .i64 most := hargs 0 _ rfl
  have x0 := Touch.refl NoF w
  refine rgs mixed 19 [.eq (.pointer none), .eq (.int .i64 0)] [[], []] d0 z0 (by kernel_rfl) ⟨Ov rfl rfl fun _ _ T _ => ex_assign rfl, Ov rfl rfl fun _ _ T _ => ex_assign rfl, trivial⟩ ?_
  intro a1 w1 d1 z1 t1 e1 q1
  refine wp_seq_k fun K2 hK2 => ?_
  have s3_0 := ((q1 0 rfl).trans s0_0)
  refine rgs mixed 19 [.eq (.int .i64 most), .eq (.bool (decide (most < 2))), .eq (.bool (decide (most < 2))), .eq (if (decide (most < 2)) = false then .int .i64 most else undef), .eq (if (decide (most < 2)) = false then .bool (decide (262144 < most)) else undef), .eq (.bool ((decide (most < 2)) || (decide (262144 < most))))] [[(0, none)], [(5, some 0)], [(6, some 1)], [(0, none), (7, some 2)], [(8, some 3), (7, some 2)], [(7, some 2), (9, some 4)]] d1 z1 (by kernel_rfl) ⟨Ov rfl rfl fun _ _ T ⟨k0, _⟩ => ex_move (k0.trans s3_0),
    Ov rfl rfl fun _ _ T ⟨k5, _⟩ => ex_lss k5 rfl,
    Ov rfl rfl fun _ _ T ⟨k6, _⟩ => ex_move k6,
    Og rfl rfl rfl fun _ _ T ⟨k0, k7, _⟩ => ⟨k7, fun hcQ => ex_move (k0.trans s3_0)⟩,
    Og rfl rfl rfl fun _ _ T ⟨k8, k7, _⟩ => ⟨k7, fun hcQ => ex_gtr (k8.trans (if_pos hcQ)) rfl⟩,
    Ov rfl rfl fun _ _ T ⟨k7, k9, _⟩ => ex_pick_or k7 rfl k9,
    trivial⟩ ?_
  intro a4 w4 d4 z4 t4 e4 q4
  rcases Bool.eq_false_or_eq_true ((decide (most < 2)) || (decide (262144 < most))) with y5 | y5
  · have c5 := y5; try simp only [Bool.and_eq_true, Bool.or_eq_true, Bool.and_eq_false_iff, Bool.or_eq_false_iff, Bool.not_eq_true', Bool.not_eq_false', decide_eq_true_eq, decide_eq_false_iff_not] at c5
    have s6_10 : a4.eval (.tmp 10) = .bool ((decide (most < 2)) || (decide (262144 < most))) := e4.2.2.2.2.2.1
    refine wp_cond_true (s6_10.trans (by rw [y5])) ?_
    refine rgs mixed 19 [.eq (.pointer none), .eq (.int .i64 1)] [[], []] d4 z4 (by kernel_rfl) ⟨Ov rfl rfl fun _ _ T _ => ex_assign rfl, Ov rfl rfl fun _ _ T _ => ex_assign rfl, trivial⟩ ?_
    intro a7 w7 d7 z7 t7 e7 q7
    refine wp_ret ?_
    have s8_2 : a7.eval (.tmp 2) = .pointer none := e7.1
    have s9_3 : a7.eval (.tmp 3) = .int .i64 1 := e7.2.1
    repeat (first | (with_reducible refine then_ret ?_) | (with_reducible refine block_ret ?_))
    refine rett (rs := [.tmp 2, .tmp 3]) (vs := [.pointer none, .int .i64 1]) Try.results14 ⟨s8_2, ⟨s9_3, trivial⟩⟩ (by simp) d7 ?_
    exfalso; simp only [Bool.or_eq_true, decide_eq_true_eq] at *; omega
  · have c5 := y5; try simp only [Bool.and_eq_true, Bool.or_eq_true, Bool.and_eq_false_iff, Bool.or_eq_false_iff, Bool.not_eq_true', Bool.not_eq_false', decide_eq_true_eq, decide_eq_false_iff_not] at c5
    have s10_10 : a4.eval (.tmp 10) = .bool ((decide (most < 2)) || (decide (262144 < most))) := e4.2.2.2.2.2.1
    refine wp_cond_false (s10_10.trans (by rw [y5])) ?_
    refine wp_skip ?_
    repeat (with_reducible refine block_norm ?_)
    refine hK2 _ _ ?_
    refine wp_seq ?_
    refine seq_begin ?_
    refine sp z4 rfl rfl (exl_build (cons_parts rfl nil_parts) (bd_119_0Ii64 104 _)) ?_; intro a11 u11 z11
    refine salloc z11 rfl (zv_119 _) ?_; intro b12 w12 a12 t12 g12 hb12 u12 z12
    have x14 := (Touch.trans (Touch.trans x0 (Ext.touch t1)) (Ext.touch t4))
    have yb12_13 := Nat.le_trans (Touch.size x14) g12
    refine sstore (cs := [.int .i64 0, .int .i64 0, .int .i64 0]) (vs := [.int .i64 104, .int .i64 0, .int .i64 0]) (cs' := [.int .i64 104, .int .i64 0, .int .i64 0]) z12 rfl (u12.here _ rfl) ((u12.past 11 rfl).trans (u11.here _ rfl)) hb12 (Try.sizeOf119 _) rfl rfl (by decide) (Nat.le_of_ble_eq_true rfl) rfl rfl ?_; intro w15 a15 t15 u15 z15
    have d16 := (u15.defs.trans (u12.defs.trans (u11.defs.trans d4)))
    refine seq_end ?_
    refine then_norm ?_
    refine wp_seq ?_
    refine seq_begin ?_
    refine sp z15 rfl rfl (ex_loadAgg (cs := [.int .i64 104, .int .i64 0, .int .i64 0]) ((u15.past 4 rfl).trans (u12.here _ rfl)) (Try.isAgg119 _) (Try.sizeOf119 _) (cells_of (off := 0) t15.here rfl)) ?_; intro a17 u17 z17
    refine sp z17 rfl rfl (ex_loadAgg (cs := [.int .i64 104, .int .i64 0, .int .i64 0]) ((u17.past 4 rfl).trans ((u15.past 4 rfl).trans (u12.here _ rfl))) (Try.isAgg119 _) (Try.sizeOf119 _) (cells_of (off := 0) t15.here rfl)) ?_; intro a18 u18 z18
    refine snew (mk := fun bQ => .slice (some ⟨bQ, 0, none⟩) 2 2) z18 rfl rfl (exl_buildSlice (cons_parts ((u18.past 12 rfl).trans (u17.here _ rfl)) (cons_parts (u18.here _ rfl) nil_parts)) (bs_120_2_0AIi64Ii64Ii64E_1AIi64Ii64Ii64E 104 0 0 104 0 0 _)) ?_; intro b19 w19 a19 t19 g19 hb19 u19 z19
    have n20_b12_b19 := ne_lt (lt_of t15.here) g19
    have x22 := (Touch.turn (Touch.trans x14 (Ext.touch t12)) t15 (Or.inr yb12_13))
    have yb19_21 := Nat.le_trans (Touch.size x22) g19
    refine snew (mk := fun bQ => .map (some bQ)) z19 rfl rfl (ex_makeMap Try.underlying121) ?_; intro b23 w23 a23 t23 g23 hb23 u23 z23
    have t15.here_25 := (Ext.keep t19 t15.here)
    have n24_b12_b23 := ne_lt (lt_of t15.here_25) g23
    have n26_b19_b23 := ne_lt (lt_of hb19) g23
    have x28 := (Touch.trans x22 (Ext.touch t19))
    have yb23_27 := Nat.le_trans (Touch.size x28) g23
    have hm23 := MapF.made (ek := nk) (ev := iv) hb23
    refine sp z23 rfl rfl (ex_move ((u23.past 0 rfl).trans ((u19.past 0 rfl).trans ((u18.past 0 rfl).trans ((u17.past 0 rfl).trans ((u15.past 0 rfl).trans ((u12.past 0 rfl).trans ((u11.past 0 rfl).trans ((q4 0 rfl).trans s3_0))))))))) ?_; intro a29 u29 z29
    refine sp z29 rfl rfl (exl_build (cons_parts ((u29.past 14 rfl).trans ((u23.past 14 rfl).trans (u19.here _ rfl))) (cons_parts ((u29.past 15 rfl).trans (u23.here _ rfl)) (cons_parts (u29.here _ rfl) nil_parts))) (bd_123_0S_1M_2Ii64 (some ⟨b19, 0, none⟩) 2 2 (some b23) most _)) ?_; intro a30 u30 z30
    refine sbox z30 rfl (u30.here _ rfl) ?_; intro b31 w31 a31 t31 g31 hb31 u31 z31
    have t15.here_33 := (Ext.keep t23 t15.here_25)
    have n32_b12_b31 := ne_lt (lt_of t15.here_33) g31
    have hb19_35 := (Ext.keep t23 hb19)
    have n34_b19_b31 := ne_lt (lt_of hb19_35) g31
    have n36_b23_b31 := ne_lt (MapF.lt hm23) g31
    have x38 := (Touch.trans x28 (Ext.touch t23))
    have yb31_37 := Nat.le_trans (Touch.size x38) g31
    refine sp z31 rfl rfl (ex_assign (u31.here _ rfl)) ?_; intro a39 u39 z39
    refine sp z39 rfl rfl (ex_assign rfl) ?_; intro a40 u40 z40
    have d41 := (u40.defs.trans (u39.defs.trans (u31.defs.trans (u30.defs.trans (u29.defs.trans (u23.defs.trans (u19.defs.trans (u18.defs.trans (u17.defs.trans d16)))))))))
    refine seq_end ?_
    refine then_norm ?_
    refine wp_ret ?_
    have s42_2 : a39.eval (.tmp 2) = .pointer (some ⟨b31, 0, none⟩) := (u39.here _ rfl)
    have s43_2 := ((u40.past 2 rfl).trans s42_2)
    have s44_3 : a40.eval (.tmp 3) = .int .i64 0 := (u40.here _ rfl)
    repeat (first | (with_reducible refine then_ret ?_) | (with_reducible refine block_ret ?_))
    refine rett (rs := [.tmp 2, .tmp 3]) (vs := [.pointer (some ⟨b31, 0, none⟩), .int .i64 0]) Try.results14 ⟨s43_2, ⟨s44_3, trivial⟩⟩ (by simp) d41 ?_
    have hb19_45 := (Ext.keep t31 hb19_35)
    have hm23_46 := (MapF.keep hm23 t31)
    have x47 := (Touch.trans x38 (Ext.touch t31))
    exact ⟨_, _, rfl, ⟨_, _, 2, hb31, own_of (cs := flat nvs [n0, n0]) hb19_45 rfl (by decide), ⟨0, by rw [ix_new]; exact hm23_46⟩, rfl⟩, (x47).ext, by rintro jQ (rfl | rfl | rfl); exact yb31_37; exact yb23_27; exact yb19_21⟩

set_option maxRecDepth 100000 in
set_option maxHeartbeats 4000000 in
theorem c_In {w : World} {b : Nat} {Fp : Nat → Prop} {A : List N3} {most : Int} (H : ArenaAt w b Fp A most) (hW : Wf A) (f : Int) (hd hs hp hsp hdp : Int) : Calls Try.prog 18 #[.pointer (some ⟨b, 0, none⟩), .int .i64 f, .agg #[.int .u32 hd, .int .u32 hs, .int .u8 hp, .int .u16 hsp, .int .u16 hdp]] w fun e w' => e = .returned (.bool (decide (Okn A f) && den A (fun iQ => hbit hd hs hp hsp hdp iQ) f)) ∧ Ext w w' := by
  refine enter 31 Try.ntmps18 Try.func18 rfl (Nat.le_of_ble_eq_true rfl) fun a0 d0 z0 hargs => ?_
  have s0_0 : a0.eval (.tmp 0) = .pointer (some ⟨b, 0, none⟩) := hargs 0 _ rfl
  have s0_1 : a0.eval (.tmp 1) = .int .i64 f := hargs 1 _ rfl
  have s0_2 : a0.eval (.tmp 2) = .agg #[.int .u32 hd, .int .u32 hs, .int .u8 hp, .int .u16 hsp, .int .u16 hdp] := hargs 2 _ rfl
  have x0 := Touch.refl NoF w
  refine wp_seq ?_
  refine seq_begin ?_
  refine sbox z0 rfl s0_2 ?_; intro b1 w1 a1 t1 g1 hb1 u1 z1
  have o2 : ¬ Fp b1 := fun hQ => by have := ArenaAt.lt H hQ; omega
  have yb1_3 := Nat.le_trans (Touch.size x0) g1
  refine sp z1 rfl rfl (ex_assign rfl) ?_; intro a4 u4 z4
  have d5 := (u4.defs.trans (u1.defs.trans d0))
  refine seq_end ?_
  refine then_norm ?_
  refine wp_seq_k fun K6 hK6 => ?_
  refine wp_seq ?_
  refine seq_begin ?_
  refine sp z4 rfl rfl (ex_move ((u4.past 0 rfl).trans ((u1.past 0 rfl).trans s0_0))) ?_; intro a7 u7 z7
  refine sp z7 rfl rfl (ex_move ((u7.past 1 rfl).trans ((u4.past 1 rfl).trans ((u1.past 1 rfl).trans s0_1)))) ?_; intro a8 u8 z8
  have H_10 := (ArenaAt.keep H t1)
  refine scx z8 rfl rfl (exl_call Try.func62 rfl rfl (cons_ops ((u8.past 8 rfl).trans (u7.here _ rfl)) (cons_ops (u8.here _ rfl) nil_ops))) (a_has H_10 _) ?_; intro w9 a9 t9 u9 z9
  refine sp z9 rfl rfl (ex_not (u9.here _ rfl)) ?_; intro a11 u11 z11
  have d12 := (u11.defs.trans (u9.defs.trans (u8.defs.trans (u7.defs.trans d5))))
  refine seq_end ?_
  refine then_norm ?_
  rcases Bool.eq_false_or_eq_true (!(decide (Okn A f))) with y13 | y13
  · have c13 := y13; try simp only [Bool.and_eq_true, Bool.or_eq_true, Bool.and_eq_false_iff, Bool.or_eq_false_iff, Bool.not_eq_true', Bool.not_eq_false', decide_eq_true_eq, decide_eq_false_iff_not] at c13
    have s14_11 : a11.eval (.tmp 11) = .bool (!(decide (Okn A f))) := (u11.here _ rfl)
    refine wp_cond_true (s14_11.trans (by rw [y13])) ?_
    refine rgs mixed 31 [.eq (.bool false)] [[]] d12 z11 (by kernel_rfl) ⟨Ov rfl rfl fun _ _ T _ => ex_assign rfl, trivial⟩ ?_
    intro a15 w15 d15 z15 t15 e15 q15
    refine wp_ret ?_
    have s16_6 : a15.eval (.tmp 6) = .bool false := e15.1
    repeat (first | (with_reducible refine then_ret ?_) | (with_reducible refine block_ret ?_))
    refine retl (rs := [.tmp 6]) Try.results18 ⟨s16_6, trivial⟩ d15 ?_
    have x17 := (Touch.trans (Touch.trans (Touch.trans x0 (Ext.touch t1)) (Ext.touch t9)) (Ext.touch t15))
    exact ⟨by congr 2; simp only [Bool.not_eq_true', decide_eq_false_iff_not] at *; simp [*], (x17).ext⟩
  · have c13 := y13; try simp only [Bool.and_eq_true, Bool.or_eq_true, Bool.and_eq_false_iff, Bool.or_eq_false_iff, Bool.not_eq_true', Bool.not_eq_false', decide_eq_true_eq, decide_eq_false_iff_not] at c13
    have s18_11 : a11.eval (.tmp 11) = .bool (!(decide (Okn A f))) := (u11.here _ rfl)
    refine wp_cond_false (s18_11.trans (by rw [y13])) ?_
    refine wp_skip ?_
    repeat (with_reducible refine block_norm ?_)
    refine hK6 _ _ ?_
    refine wp_seq_k fun K19 hK19 => ?_
    refine wp_block ?_
    have hok : Okn A f := by simp only [Bool.not_eq_true', Bool.not_eq_false', decide_eq_true_eq, decide_eq_false_iff_not] at *; assumption
    have s21_0 := ((u11.past 0 rfl).trans ((u9.past 0 rfl).trans ((u8.past 0 rfl).trans ((u7.past 0 rfl).trans ((u4.past 0 rfl).trans ((u1.past 0 rfl).trans s0_0))))))
    have s22_1 := ((u11.past 1 rfl).trans ((u9.past 1 rfl).trans ((u8.past 1 rfl).trans ((u7.past 1 rfl).trans ((u4.past 1 rfl).trans ((u1.past 1 rfl).trans s0_1))))))
    have s23_5 : a1.eval (.tmp 5) = .pointer (some ⟨b1, 0, none⟩) := (u1.here _ rfl)
    have s24_5 := ((u11.past 5 rfl).trans ((u9.past 5 rfl).trans ((u8.past 5 rfl).trans ((u7.past 5 rfl).trans ((u4.past 5 rfl).trans s23_5)))))
    have s25_6 : a4.eval (.tmp 6) = .bool false := (u4.here _ rfl)
    have s26_6 := ((u11.past 6 rfl).trans ((u9.past 6 rfl).trans ((u8.past 6 rfl).trans ((u7.past 6 rfl).trans s25_6))))
    have x27 := (Touch.trans (Touch.trans x0 (Ext.touch t1)) (Ext.touch t9))
    have H_28 := (ArenaAt.keep H_10 t9)
    have hb1_30 := (Ext.keep t9 hb1)
    refine wp_loopg (σ := Nat) (fun nQ aQ wQ => ∃ g : Int, nQ = g.toNat ∧
      aQ.defers = [] ∧
      aQ.tmps.size = 31 ∧
      aQ.eval (.tmp 0) = .pointer (some ⟨b, 0, none⟩) ∧
      aQ.eval (.tmp 1) = .int .i64 g ∧
      aQ.eval (.tmp 5) = .pointer (some ⟨b1, 0, none⟩) ∧
      aQ.eval (.tmp 6) = .bool false ∧
      Touch (NoF) w wQ ∧
      ArenaAt wQ b Fp A most ∧
      wQ.heap[b1]? = some (.cells #[.int .u32 hd, .int .u32 hs, .int .u8 hp, .int .u16 hsp, .int .u16 hdp] 31 (0, 0)) ∧
      (Okn A g) ∧
      (den A (fun iQ => hbit hd hs hp hsp hdp iQ) g = den A (fun iQ => hbit hd hs hp hsp hdp iQ) f)) (fun nQ => nQ) _ ⟨f, rfl, d12, z11, s21_0, (s22_1.trans (by first | rfl | (congr 1; omega) | (simp; omega) | simp)), s24_5, s26_6, x27, H_28, hb1_30, hok, rfl⟩ ?_
    rintro nQ20 a20 w20 ⟨g, hmu20, d20, z20, s20_0, s20_1, s20_5, s20_6, x20, H_29, hb1_31, hg, hgd⟩
    have hg' := hg; unfold Okn at hg'
    refine wp_seq_k fun K32 hK32 => ?_
    refine rgs mixed 31 [.eq (.int .i64 g), .eq (.bool (decide (1 < g)))] [[(1, none)], [(12, some 0)]] d20 z20 (by kernel_rfl) ⟨Ov rfl rfl fun _ _ T ⟨k1, _⟩ => ex_move (k1.trans s20_1), Ov rfl rfl fun _ _ T ⟨k12, _⟩ => ex_gtr k12 rfl, trivial⟩ ?_
    intro a33 w33 d33 z33 t33 e33 q33
    by_cases c34 : 1 < g
    · have y34 := decide_eq_true c34
      have s35_13 : a33.eval (.tmp 13) = .bool (decide (1 < g)) := e33.2.1
      refine wp_cond_true (s35_13.trans (by rw [y34])) ?_
      refine wp_skip ?_
      repeat (with_reducible refine block_norm ?_)
      refine hK32 _ _ ?_
      refine wp_block ?_
      have H_36 := (ArenaAt.keep H_29 t33)
      obtain ⟨bm37, row37, cap37, hb37, ho37, ⟨nQ37, hm37⟩, eF37⟩ := (H_36).ex
      refine wp_seq ?_
      refine seq_begin ?_
      refine sp z33 rfl rfl (ex_move ((q33 0 rfl).trans s20_0)) ?_; intro a38 u38 z38
      refine sp z38 rfl rfl (ex_nilCheck (u38.here _ rfl)) ?_; intro a39 u39 z39
      refine sp z39 rfl rfl (ex_fieldAddr (u39.here _ rfl) (fa_123_0 _ _ _)) ?_; intro a40 u40 z40
      refine sp z40 rfl rfl (ex_load (u40.here _ rfl) (Try.isAgg120 _) (cell_of hb37 rfl)) ?_; intro a41 u41 z41
      refine sp z41 rfl rfl (ex_move ((u41.past 1 rfl).trans ((u40.past 1 rfl).trans ((u39.past 1 rfl).trans ((u38.past 1 rfl).trans ((q33 1 rfl).trans s20_1)))))) ?_; intro a42 u42 z42
      refine sp z42 rfl rfl (ex_ixa Try.underlying120 (Try.sizeOf119 _) ((u42.past 17 rfl).trans (u41.here _ rfl)) rfl (u42.here _ rfl) (by omega) (by omega)) ?_; intro a43 u43 z43
      refine sp z43 rfl rfl (ex_loadAgg (cs := [.int .i64 ((at_ A n0 g).1), .int .i64 ((at_ A n0 g).2.1), .int .i64 ((at_ A n0 g).2.2)]) (u43.here _ rfl) (Try.isAgg119 _) (Try.sizeOf119 _) (own_ats (us := [.int .i64 ((at_ A n0 g).1), .int .i64 ((at_ A n0 g).2.1), .int .i64 ((at_ A n0 g).2.2)]) ho37 rfl nvs3 (at_some' (d := n0) (by rfl) (by omega) (by omega)) 0 rfl)) ?_; intro a44 u44 z44
      refine salloc z44 rfl (zv_119 _) ?_; intro b45 w45 a45 t45 g45 hb45 u45 z45
      have hb1_47 := (Ext.keep t33 hb1_31)
      have n46_b1_b45 := ne_lt (lt_of hb1_47) g45
      have n48_b_b45 := ne_lt (lt_of hb37) g45
      have n49_row37_b45 := ne_lt (own_lt ho37 rfl) g45
      have n50_bm37_b45 := ne_lt (MapF.lt hm37) g45
      have o51 : ¬ Fp b45 := fun hQ => by have := ArenaAt.lt H_36 hQ; omega
      have x53 := (Touch.trans x20 (Ext.touch t33))
      have yb45_52 := Nat.le_trans (Touch.size x53) g45
      refine sstore (cs := [.int .i64 0, .int .i64 0, .int .i64 0]) (vs := [.int .i64 ((at_ A n0 g).1), .int .i64 ((at_ A n0 g).2.1), .int .i64 ((at_ A n0 g).2.2)]) (cs' := [.int .i64 ((at_ A n0 g).1), .int .i64 ((at_ A n0 g).2.1), .int .i64 ((at_ A n0 g).2.2)]) z45 rfl (u45.here _ rfl) ((u45.past 20 rfl).trans (u44.here _ rfl)) hb45 (Try.sizeOf119 _) rfl rfl (by decide) (Nat.le_of_ble_eq_true rfl) rfl rfl ?_; intro w54 a54 t54 u54 z54
      have d55 := (u54.defs.trans (u45.defs.trans (u44.defs.trans (u43.defs.trans (u42.defs.trans (u41.defs.trans (u40.defs.trans (u39.defs.trans (u38.defs.trans d33)))))))))
      refine seq_end ?_
      refine then_norm ?_
      have s56_7 : a45.eval (.tmp 7) = .pointer (some ⟨b45, 0, none⟩) := (u45.here _ rfl)
      have s57_7 := ((u54.past 7 rfl).trans s56_7)
      refine rgs mixed 31 [.eq (.pointer (some ⟨b45, 1, none⟩)), .eq (.int .i64 ((at_ A n0 g).2.1)), .eq (.int .i64 ((at_ A n0 g).2.1))] [[(7, none)], [(21, some 0)], [(22, some 1)]] d55 z54 (by kernel_rfl) ⟨Ov rfl rfl fun _ _ T ⟨k7, _⟩ => ex_fieldAddr (k7.trans s57_7) (fa_119_1 _ _ _), Ov rfl rfl fun _ _ T ⟨k21, _⟩ => ex_load k21 (Try.isAgg3 _) (cell_of (Ext.keep T.ext t54.here) rfl), Ov rfl rfl fun _ _ T ⟨k22, _⟩ => ex_assign k22, trivial⟩ ?_
      intro a58 w58 d58 z58 t58 e58 q58
      refine wp_seq ?_
      refine seq_begin ?_
      have hb1_60 := (Ext.keep t58 (Turn.keep t54 (Ext.keep t45 hb1_47) n46_b1_b45))
      refine sp z58 rfl rfl (ex_loadAgg (cs := [.int .u32 hd, .int .u32 hs, .int .u8 hp, .int .u16 hsp, .int .u16 hdp]) ((q58 5 rfl).trans ((u54.past 5 rfl).trans ((u45.past 5 rfl).trans ((u44.past 5 rfl).trans ((u43.past 5 rfl).trans ((u42.past 5 rfl).trans ((u41.past 5 rfl).trans ((u40.past 5 rfl).trans ((u39.past 5 rfl).trans ((u38.past 5 rfl).trans ((q33 5 rfl).trans s20_5))))))))))) (Try.isAgg31 _) (Try.sizeOf31 _) (cells_of (off := 0) hb1_60 rfl)) ?_; intro a59 u59 z59
      refine sp z59 rfl rfl (ex_fieldAddr ((u59.past 7 rfl).trans ((q58 7 rfl).trans s57_7)) (fa_119_0 _ _ _)) ?_; intro a61 u61 z61
      have t54.here_63 := (Ext.keep t58 t54.here)
      refine sp z61 rfl rfl (ex_load (u61.here _ rfl) (Try.isAgg3 _) (cell_of t54.here_63 rfl)) ?_; intro a62 u62 z62
      refine scx z62 rfl rfl (exl_call Try.func61 rfl rfl (cons_ops ((u62.past 23 rfl).trans ((u61.past 23 rfl).trans (u59.here _ rfl))) (cons_ops (u62.here _ rfl) nil_ops))) (c_hbit hd hs hp hsp hdp ((at_ A n0 g).1)  _) ?_; intro w64 a64 t64 u64 z64
      have d65 := (u64.defs.trans (u62.defs.trans (u61.defs.trans (u59.defs.trans d58))))
      refine seq_end ?_
      refine then_norm ?_
      rcases Bool.eq_false_or_eq_true ((hbit hd hs hp hsp hdp ((at_ A n0 g).1))) with y66 | y66
      · have c66 := y66
        have s67_26 : a64.eval (.tmp 26) = .bool (hbit hd hs hp hsp hdp ((at_ A n0 g).1)) := (u64.here _ rfl)
        refine wp_cond_true (s67_26.trans (by rw [y66])) ?_
        have s68_7 := ((u64.past 7 rfl).trans ((u62.past 7 rfl).trans ((u61.past 7 rfl).trans ((u59.past 7 rfl).trans ((q58 7 rfl).trans s57_7)))))
        have t54.here_69 := (Ext.keep t64 t54.here_63)
        refine rg mixed 31 [.eq (.pointer (some ⟨b45, 2, none⟩)), .eq (.int .i64 ((at_ A n0 g).2.2)), .eq (.int .i64 ((at_ A n0 g).2.2))] [[(7, none)], [(27, some 0)], [(28, some 1)]] d65 z64 (by kernel_rfl) ⟨Ov rfl rfl fun _ _ T ⟨k7, _⟩ => ex_fieldAddr (k7.trans s68_7) (fa_119_2 _ _ _), Ov rfl rfl fun _ _ T ⟨k27, _⟩ => ex_load k27 (Try.isAgg3 _) (cell_of (Ext.keep T.ext t54.here_69) rfl), Ov rfl rfl fun _ _ T ⟨k28, _⟩ => ex_assign k28, trivial⟩ ?_
        intro a70 w70 d70 z70 t70 e70 q70
        repeat (with_reducible refine block_norm ?_)
        have nn := hW.node g (by omega) hg.2
        have ds := den_step hW (fun iQ => hbit hd hs hp hsp hdp iQ) (i := g) (by omega) hg.2
        have hb := y66
        rw [show hbit hd hs hp hsp hdp (nd A g).1 = true from y66] at ds
        simp only [if_true, if_false] at ds
        simp only [nd] at nn ds
        have s71_0 := ((q70 0 rfl).trans ((u64.past 0 rfl).trans ((u62.past 0 rfl).trans ((u61.past 0 rfl).trans ((u59.past 0 rfl).trans ((q58 0 rfl).trans ((u54.past 0 rfl).trans ((u45.past 0 rfl).trans ((u44.past 0 rfl).trans ((u43.past 0 rfl).trans ((u42.past 0 rfl).trans ((u41.past 0 rfl).trans ((u40.past 0 rfl).trans ((u39.past 0 rfl).trans ((u38.past 0 rfl).trans ((q33 0 rfl).trans s20_0))))))))))))))))
        have s72_1 : a70.eval (.tmp 1) = .int .i64 ((at_ A n0 g).2.2) := e70.2.2.1
        have s73_5 := ((q70 5 rfl).trans ((u64.past 5 rfl).trans ((u62.past 5 rfl).trans ((u61.past 5 rfl).trans ((u59.past 5 rfl).trans ((q58 5 rfl).trans ((u54.past 5 rfl).trans ((u45.past 5 rfl).trans ((u44.past 5 rfl).trans ((u43.past 5 rfl).trans ((u42.past 5 rfl).trans ((u41.past 5 rfl).trans ((u40.past 5 rfl).trans ((u39.past 5 rfl).trans ((u38.past 5 rfl).trans ((q33 5 rfl).trans s20_5))))))))))))))))
        have s74_6 := ((q70 6 rfl).trans ((u64.past 6 rfl).trans ((u62.past 6 rfl).trans ((u61.past 6 rfl).trans ((u59.past 6 rfl).trans ((q58 6 rfl).trans ((u54.past 6 rfl).trans ((u45.past 6 rfl).trans ((u44.past 6 rfl).trans ((u43.past 6 rfl).trans ((u42.past 6 rfl).trans ((u41.past 6 rfl).trans ((u40.past 6 rfl).trans ((u39.past 6 rfl).trans ((u38.past 6 rfl).trans ((q33 6 rfl).trans s20_6))))))))))))))))
        have x75 := (Touch.trans (Touch.trans (Touch.trans (Touch.turn (Touch.trans x53 (Ext.touch t45)) t54 (Or.inr yb45_52)) (Ext.touch t58)) (Ext.touch t64)) (Ext.touch t70))
        have H_76 := (ArenaAt.keep (ArenaAt.keep (ArenaAt.keep (ArenaAt.turn (ArenaAt.keep H_36 t45) t54 o51) t58) t64) t70)
        have hb1_77 := (Ext.keep t70 (Ext.keep t64 hb1_60))
        refine then_norm ?_
        refine ⟨_, ⟨(at_ A n0 g).2.2, rfl, d70, z70, s71_0, s72_1, s73_5, s74_6, x75, H_76, hb1_77, ⟨nn.2.2.2.2.1, by have := hg.2; omega⟩, (by rw [← hgd, ds])⟩, ?_⟩; (show _ < _); rw [hmu20]; exact (by omega)
      · have c66 := y66
        have s78_26 : a64.eval (.tmp 26) = .bool (hbit hd hs hp hsp hdp ((at_ A n0 g).1)) := (u64.here _ rfl)
        refine wp_cond_false (s78_26.trans (by rw [y66])) ?_
        refine wp_skip ?_
        repeat (with_reducible refine block_norm ?_)
        have nn := hW.node g (by omega) hg.2
        have ds := den_step hW (fun iQ => hbit hd hs hp hsp hdp iQ) (i := g) (by omega) hg.2
        have hb := y66
        rw [show hbit hd hs hp hsp hdp (nd A g).1 = false from y66] at ds
        simp only [Bool.false_eq_true, if_false] at ds
        simp only [nd] at nn ds
        have s79_0 := ((u64.past 0 rfl).trans ((u62.past 0 rfl).trans ((u61.past 0 rfl).trans ((u59.past 0 rfl).trans ((q58 0 rfl).trans ((u54.past 0 rfl).trans ((u45.past 0 rfl).trans ((u44.past 0 rfl).trans ((u43.past 0 rfl).trans ((u42.past 0 rfl).trans ((u41.past 0 rfl).trans ((u40.past 0 rfl).trans ((u39.past 0 rfl).trans ((u38.past 0 rfl).trans ((q33 0 rfl).trans s20_0)))))))))))))))
        have s80_1 : a58.eval (.tmp 1) = .int .i64 ((at_ A n0 g).2.1) := e58.2.2.1
        have s81_1 := ((u64.past 1 rfl).trans ((u62.past 1 rfl).trans ((u61.past 1 rfl).trans ((u59.past 1 rfl).trans s80_1))))
        have s82_5 := ((u64.past 5 rfl).trans ((u62.past 5 rfl).trans ((u61.past 5 rfl).trans ((u59.past 5 rfl).trans ((q58 5 rfl).trans ((u54.past 5 rfl).trans ((u45.past 5 rfl).trans ((u44.past 5 rfl).trans ((u43.past 5 rfl).trans ((u42.past 5 rfl).trans ((u41.past 5 rfl).trans ((u40.past 5 rfl).trans ((u39.past 5 rfl).trans ((u38.past 5 rfl).trans ((q33 5 rfl).trans s20_5)))))))))))))))
        have s83_6 := ((u64.past 6 rfl).trans ((u62.past 6 rfl).trans ((u61.past 6 rfl).trans ((u59.past 6 rfl).trans ((q58 6 rfl).trans ((u54.past 6 rfl).trans ((u45.past 6 rfl).trans ((u44.past 6 rfl).trans ((u43.past 6 rfl).trans ((u42.past 6 rfl).trans ((u41.past 6 rfl).trans ((u40.past 6 rfl).trans ((u39.past 6 rfl).trans ((u38.past 6 rfl).trans ((q33 6 rfl).trans s20_6)))))))))))))))
        have x84 := (Touch.trans (Touch.trans (Touch.turn (Touch.trans x53 (Ext.touch t45)) t54 (Or.inr yb45_52)) (Ext.touch t58)) (Ext.touch t64))
        have H_85 := (ArenaAt.keep (ArenaAt.keep (ArenaAt.turn (ArenaAt.keep H_36 t45) t54 o51) t58) t64)
        have hb1_86 := (Ext.keep t64 hb1_60)
        refine then_norm ?_
        refine ⟨_, ⟨(at_ A n0 g).2.1, rfl, d65, z64, s79_0, s81_1, s82_5, s83_6, x84, H_85, hb1_86, ⟨nn.2.2.1, by have := hg.2; omega⟩, (by rw [← hgd, ds])⟩, ?_⟩; (show _ < _); rw [hmu20]; exact (by omega)
    · have y34 := decide_eq_false c34
      have s87_13 : a33.eval (.tmp 13) = .bool (decide (1 < g)) := e33.2.1
      refine wp_cond_false (s87_13.trans (by rw [y34])) ?_
      refine wp_exit ?_
      repeat (first | (with_reducible refine then_exit ?_) | (with_reducible refine block_here ?_) | (with_reducible refine block_past rfl ?_))
      refine hK19 _ _ ?_
      have s88_1 := ((q33 1 rfl).trans s20_1)
      refine rgs mixed 31 [.eq (.int .i64 g), .eq (.bool (decide (g = 1))), .eq (.bool (decide (g = 1)))] [[(1, none)], [(29, some 0)], [(30, some 1)]] d33 z33 (by kernel_rfl) ⟨Ov rfl rfl fun _ _ T ⟨k1, _⟩ => ex_move (k1.trans s88_1), Ov rfl rfl fun _ _ T ⟨k29, _⟩ => ex_eql k29 rfl, Ov rfl rfl fun _ _ T ⟨k30, _⟩ => ex_assign k30, trivial⟩ ?_
      intro a89 w89 d89 z89 t89 e89 q89
      refine wp_ret ?_
      have s90_6 : a89.eval (.tmp 6) = .bool (decide (g = 1)) := e89.2.2.1
      repeat (first | (with_reducible refine then_ret ?_) | (with_reducible refine block_ret ?_))
      refine retl (rs := [.tmp 6]) Try.results18 ⟨s90_6, trivial⟩ d89 ?_
      have x91 := (Touch.trans (Touch.trans x20 (Ext.touch t33)) (Ext.touch t89))
      have hz : g = 0 ∨ g = 1 := by unfold Okn at hg; omega
      exact ⟨by congr 2; rw [← hgd]; rcases hz with rfl | rfl <;> simp [hok, den_zero, den_one], (x91).ext⟩

set_option maxRecDepth 100000 in
set_option maxHeartbeats 4000000 in
theorem c_lits {w : World} (base x n bits : Int) (hb : 0 ≤ base ∧ base ≤ 1000) (hn : 0 ≤ bits ∧ bits ≤ n ∧ n ≤ 1000) : Calls Try.prog 57 #[.int .i64 base, .int .u32 x, .int .i64 n, .int .i64 bits] w fun e w' => ∃ A c, e = .returned (.slice A bits.toNat c) ∧ w'.ownsRow 0 133 2 (.slice A bits.toNat c) bits.toNat (flat lvs_ (litL base x n bits.toNat)) ∧ Ext w w' ∧ ∀ j, (Value.slice A bits.toNat c).ownBlock = some j → w.heap.size ≤ j := by
  refine enter 32 Try.ntmps57 Try.func57 rfl (Nat.le_of_ble_eq_true rfl) fun a0 d0 z0 hargs => ?_
  have s0_0 : a0.eval (.tmp 0) = .int .i64 base := hargs 0 _ rfl
  have s0_1 : a0.eval (.tmp 1) = .int .u32 x := hargs 1 _ rfl
  have s0_2 : a0.eval (.tmp 2) = .int .i64 n := hargs 2 _ rfl
  have s0_3 : a0.eval (.tmp 3) = .int .i64 bits := hargs 3 _ rfl
  have x0 := Touch.refl NoF w
  refine rgs mixed 32 [.eq (.slice none 0 0)] [[]] d0 z0 (by kernel_rfl) ⟨Ov rfl rfl fun _ _ T _ => ex_assign rfl, trivial⟩ ?_
  intro a1 w1 d1 z1 t1 e1 q1
  refine rgs mixed 32 [.eq (.slice none 0 0)] [[]] d1 z1 (by kernel_rfl) ⟨Ov rfl rfl fun _ _ T _ => ex_assign rfl, trivial⟩ ?_
  intro a2 w2 d2 z2 t2 e2 q2
  refine wp_seq_k fun K3 hK3 => ?_
  have s4_3 := ((q2 3 rfl).trans ((q1 3 rfl).trans s0_3))
  refine rgs mixed 32 [.eq (.int .i64 bits), .eq (.int .i64 0)] [[(3, none)], []] d2 z2 (by kernel_rfl) ⟨Ov rfl rfl fun _ _ T ⟨k3, _⟩ => ex_move (k3.trans s4_3), Ov rfl rfl fun _ _ T _ => ex_move rfl, trivial⟩ ?_
  intro a5 w5 d5 z5 t5 e5 q5
  refine wp_block ?_
  have s7_0 := ((q5 0 rfl).trans ((q2 0 rfl).trans ((q1 0 rfl).trans s0_0)))
  have s8_1 := ((q5 1 rfl).trans ((q2 1 rfl).trans ((q1 1 rfl).trans s0_1)))
  have s9_2 := ((q5 2 rfl).trans ((q2 2 rfl).trans ((q1 2 rfl).trans s0_2)))
  have s10_8 : a1.eval (.tmp 8) = .slice none 0 0 := e1.1
  have s11_8 := ((q5 8 rfl).trans ((q2 8 rfl).trans s10_8))
  have s12_9 : a2.eval (.tmp 9) = .slice none 0 0 := e2.1
  have s13_9 := ((q5 9 rfl).trans s12_9)
  have s14_11 : a5.eval (.tmp 11) = .int .i64 bits := e5.1
  have s15_12 : a5.eval (.tmp 12) = .int .i64 0 := e5.2.1
  have x16 := (Touch.trans (Touch.trans (Touch.trans x0 (Ext.touch t1)) (Ext.touch t2)) (Ext.touch t5))
  refine wp_loopg (σ := Nat) (fun nQ aQ wQ => ∃ A : Option Addr, ∃ k : Nat, ∃ cp : Nat, nQ = (bits.toNat - k) ∧
    aQ.defers = [] ∧
    aQ.tmps.size = 32 ∧
    aQ.eval (.tmp 0) = .int .i64 base ∧
    aQ.eval (.tmp 1) = .int .u32 x ∧
    aQ.eval (.tmp 2) = .int .i64 n ∧
    aQ.eval (.tmp 8) = .slice none 0 0 ∧
    aQ.eval (.tmp 9) = .slice A k cp ∧
    aQ.eval (.tmp 11) = .int .i64 bits ∧
    aQ.eval (.tmp 12) = .int .i64 (k : Int) ∧
    Touch (NoF) w wQ ∧
    wQ.ownsRow 0 133 2 (.slice A k cp) k (flat lvs_ (litL base x n k)) ∧
    ((k : Int) ≤ bits) ∧
    (∀ j, (Value.slice A k cp).ownBlock = some j → w.heap.size ≤ j)) (fun nQ => nQ) _ ⟨none, 0, 0, rfl, d5, z5, s7_0, s8_1, s9_2, s11_8, (s13_9.trans (by first | rfl | (congr 1; omega) | (simp; omega) | simp)), s14_11, (s15_12.trans (by first | rfl | (congr 1; omega) | (simp; omega) | simp)), x16, (World.ownsRow_nil _ 0 133 2), by omega, by simp [Value.ownBlock]⟩ ?_
  rintro nQ6 a6 w6 ⟨A, k, cp, hmu6, d6, z6, s6_0, s6_1, s6_2, s6_8, s6_9, s6_11, s6_12, x6, f17, hk, hbase⟩
  refine rgs mixed 32 [.eq (.bool (decide ((k : Int) < bits)))] [[(12, none), (11, none)]] d6 z6 (by kernel_rfl) ⟨Ov rfl rfl fun _ _ T ⟨k12, k11, _⟩ => ex_lss (k12.trans s6_12) (k11.trans s6_11), trivial⟩ ?_
  intro a18 w18 d18 z18 t18 e18 q18
  refine wp_seq_k fun K19 hK19 => ?_
  by_cases c20 : (k : Int) < bits
  · have y20 := decide_eq_true c20
    have s21_13 : a18.eval (.tmp 13) = .bool (decide ((k : Int) < bits)) := e18.1
    refine wp_cond_true (s21_13.trans (by rw [y20])) ?_
    refine wp_skip ?_
    repeat (with_reducible refine block_norm ?_)
    refine hK19 _ _ ?_
    refine wp_seq_k fun K22 hK22 => ?_
    refine wp_block ?_
    have s23_12 := ((q18 12 rfl).trans s6_12)
    refine rgs mixed 32 [.eq (.int .i64 (k : Int)), .eq (.int .i64 (k : Int))] [[(12, none)], [(14, some 0)]] d18 z18 (by kernel_rfl) ⟨Ov rfl rfl fun _ _ T ⟨k12, _⟩ => ex_move (k12.trans s23_12), Ov rfl rfl fun _ _ T ⟨k14, _⟩ => ex_assign k14, trivial⟩ ?_
    intro a24 w24 d24 z24 t24 e24 q24
    refine seq_begin ?_
    refine sp z24 rfl rfl (ex_move ((q24 9 rfl).trans ((q18 9 rfl).trans s6_9))) ?_; intro a25 u25 z25
    refine sp z25 rfl rfl (ex_move ((u25.past 0 rfl).trans ((q24 0 rfl).trans ((q18 0 rfl).trans s6_0)))) ?_; intro a26 u26 z26
    refine sp z26 rfl rfl (ex_move ((u26.past 10 rfl).trans ((u25.past 10 rfl).trans e24.2.1))) ?_; intro a27 u27 z27
    refine sp z27 rfl rfl (ex_add64 ((u27.past 16 rfl).trans (u26.here _ rfl)) (u27.here _ rfl) (by omega)) ?_; intro a28 u28 z28
    refine sp z28 rfl rfl (ex_move ((u28.past 1 rfl).trans ((u27.past 1 rfl).trans ((u26.past 1 rfl).trans ((u25.past 1 rfl).trans ((q24 1 rfl).trans ((q18 1 rfl).trans s6_1))))))) ?_; intro a29 u29 z29
    refine sp z29 rfl rfl (ex_move ((u29.past 2 rfl).trans ((u28.past 2 rfl).trans ((u27.past 2 rfl).trans ((u26.past 2 rfl).trans ((u25.past 2 rfl).trans ((q24 2 rfl).trans ((q18 2 rfl).trans s6_2)))))))) ?_; intro a30 u30 z30
    refine sp z30 rfl rfl (ex_sub64 (u30.here _ rfl) rfl (by omega)) ?_; intro a31 u31 z31
    refine sp z31 rfl rfl (ex_move ((u31.past 10 rfl).trans ((u30.past 10 rfl).trans ((u29.past 10 rfl).trans ((u28.past 10 rfl).trans ((u27.past 10 rfl).trans ((u26.past 10 rfl).trans ((u25.past 10 rfl).trans e24.2.1)))))))) ?_; intro a32 u32 z32
    refine sp z32 rfl rfl (ex_sub64 ((u32.past 21 rfl).trans (u31.here _ rfl)) (u32.here _ rfl) (by omega)) ?_; intro a33 u33 z33
    refine sp z33 rfl rfl (ex_shr ((u33.past 19 rfl).trans ((u32.past 19 rfl).trans ((u31.past 19 rfl).trans ((u30.past 19 rfl).trans (u29.here _ rfl))))) (u33.here _ rfl) (by omega)) ?_; intro a34 u34 z34
    refine sp z34 rfl rfl (ex_and (u34.here _ rfl) rfl) ?_; intro a35 u35 z35
    refine sp z35 rfl rfl (ex_eql (u35.here _ rfl) rfl) ?_; intro a36 u36 z36
    refine sp z36 rfl rfl (exl_build (cons_parts ((u36.past 18 rfl).trans ((u35.past 18 rfl).trans ((u34.past 18 rfl).trans ((u33.past 18 rfl).trans ((u32.past 18 rfl).trans ((u31.past 18 rfl).trans ((u30.past 18 rfl).trans ((u29.past 18 rfl).trans (u28.here _ rfl))))))))) (cons_parts (u36.here _ rfl) nil_parts)) (bd_133_0Ii64_1B (base + (k : Int)) (decide ((ibits .and .u32 (x.fdiv (2 ^ min ((n - 1) - (k : Int)).toNat IntKind.u32.bits)) 1) = 1)) _)) ?_; intro a37 u37 z37
    refine snew (mk := fun bQ => .slice (some ⟨bQ, 0, none⟩) 1 1) z37 rfl rfl (exl_buildSlice (cons_parts (u37.here _ rfl) nil_parts) (bs_128_1_0AIi64BE (base + (k : Int)) (decide ((ibits .and .u32 (x.fdiv (2 ^ min ((n - 1) - (k : Int)).toNat IntKind.u32.bits)) 1) = 1)) _)) ?_; intro b38 w38 a38 t38 g38 hb38 u38 z38
    have f17_40 := (own_keep (own_keep f17 t18) t24)
    have no39 := no_new f17_40 g38
    have x42 := (Touch.trans (Touch.trans x6 (Ext.touch t18)) (Ext.touch t24))
    have yb38_41 := Nat.le_trans (Touch.size x42) g38
    have f17_44 := (own_keep f17_40 t38)
    refine sapp (m := 1) (news := [.int .i64 (base + (k : Int)), .bool (decide ((ibits .and .u32 (x.fdiv (2 ^ min ((n - 1) - (k : Int)).toNat IntKind.u32.bits)) 1) = 1))]) z38 rfl el_128 f17_44 ((u38.past 15 rfl).trans ((u37.past 15 rfl).trans ((u36.past 15 rfl).trans ((u35.past 15 rfl).trans ((u34.past 15 rfl).trans ((u33.past 15 rfl).trans ((u32.past 15 rfl).trans ((u31.past 15 rfl).trans ((u30.past 15 rfl).trans ((u29.past 15 rfl).trans ((u28.past 15 rfl).trans ((u27.past 15 rfl).trans ((u26.past 15 rfl).trans (u25.here _ rfl)))))))))))))) (u38.here _ rfl) rfl (news_of hb38) rfl (by omega) (by omega) ?_; intro A43 cp43 w43 a43 t43 u43 z43
    have no46 := App.no t43 (lt_of hb38) (fun (jQ : Nat) hQ (eQ : jQ = b38) => (fun (eQ : some b38 = _) => no39 _ eQ.symm rfl) (by rw [← eQ]; exact hQ.symm))
    have x48 := (Touch.trans x42 (Ext.touch t38))
    have no47 := App.base t43 (Touch.size x48) hbase
    refine sp z43 rfl rfl (ex_assign (u43.here _ rfl)) ?_; intro a49 u49 z49
    have d50 := (u49.defs.trans (u43.defs.trans (u38.defs.trans (u37.defs.trans (u36.defs.trans (u35.defs.trans (u34.defs.trans (u33.defs.trans (u32.defs.trans (u31.defs.trans (u30.defs.trans (u29.defs.trans (u28.defs.trans (u27.defs.trans (u26.defs.trans (u25.defs.trans d24))))))))))))))))
    refine seq_end ?_
    repeat (with_reducible refine block_norm ?_)
    refine hK22 _ _ ?_
    have s51_12 := ((u49.past 12 rfl).trans ((u43.past 12 rfl).trans ((u38.past 12 rfl).trans ((u37.past 12 rfl).trans ((u36.past 12 rfl).trans ((u35.past 12 rfl).trans ((u34.past 12 rfl).trans ((u33.past 12 rfl).trans ((u32.past 12 rfl).trans ((u31.past 12 rfl).trans ((u30.past 12 rfl).trans ((u29.past 12 rfl).trans ((u28.past 12 rfl).trans ((u27.past 12 rfl).trans ((u26.past 12 rfl).trans ((u25.past 12 rfl).trans ((q24 12 rfl).trans s23_12)))))))))))))))))
    refine rg mixed 32 [.eq (.int .i64 ((k : Int) + 1)), .eq (.int .i64 ((k : Int) + 1))] [[(12, none)], [(30, some 0)]] d50 z49 (by kernel_rfl) ⟨Ov rfl rfl fun _ _ T ⟨k12, _⟩ => ex_add64 (k12.trans s51_12) rfl (by omega), Ov rfl rfl fun _ _ T ⟨k30, _⟩ => ex_move k30, trivial⟩ ?_
    intro a52 w52 d52 z52 t52 e52 q52
    repeat (with_reducible refine block_norm ?_)
    have s53_0 := ((q52 0 rfl).trans ((u49.past 0 rfl).trans ((u43.past 0 rfl).trans ((u38.past 0 rfl).trans ((u37.past 0 rfl).trans ((u36.past 0 rfl).trans ((u35.past 0 rfl).trans ((u34.past 0 rfl).trans ((u33.past 0 rfl).trans ((u32.past 0 rfl).trans ((u31.past 0 rfl).trans ((u30.past 0 rfl).trans ((u29.past 0 rfl).trans ((u28.past 0 rfl).trans ((u27.past 0 rfl).trans ((u26.past 0 rfl).trans ((u25.past 0 rfl).trans ((q24 0 rfl).trans ((q18 0 rfl).trans s6_0)))))))))))))))))))
    have s54_1 := ((q52 1 rfl).trans ((u49.past 1 rfl).trans ((u43.past 1 rfl).trans ((u38.past 1 rfl).trans ((u37.past 1 rfl).trans ((u36.past 1 rfl).trans ((u35.past 1 rfl).trans ((u34.past 1 rfl).trans ((u33.past 1 rfl).trans ((u32.past 1 rfl).trans ((u31.past 1 rfl).trans ((u30.past 1 rfl).trans ((u29.past 1 rfl).trans ((u28.past 1 rfl).trans ((u27.past 1 rfl).trans ((u26.past 1 rfl).trans ((u25.past 1 rfl).trans ((q24 1 rfl).trans ((q18 1 rfl).trans s6_1)))))))))))))))))))
    have s55_2 := ((q52 2 rfl).trans ((u49.past 2 rfl).trans ((u43.past 2 rfl).trans ((u38.past 2 rfl).trans ((u37.past 2 rfl).trans ((u36.past 2 rfl).trans ((u35.past 2 rfl).trans ((u34.past 2 rfl).trans ((u33.past 2 rfl).trans ((u32.past 2 rfl).trans ((u31.past 2 rfl).trans ((u30.past 2 rfl).trans ((u29.past 2 rfl).trans ((u28.past 2 rfl).trans ((u27.past 2 rfl).trans ((u26.past 2 rfl).trans ((u25.past 2 rfl).trans ((q24 2 rfl).trans ((q18 2 rfl).trans s6_2)))))))))))))))))))
    have s56_8 := ((q52 8 rfl).trans ((u49.past 8 rfl).trans ((u43.past 8 rfl).trans ((u38.past 8 rfl).trans ((u37.past 8 rfl).trans ((u36.past 8 rfl).trans ((u35.past 8 rfl).trans ((u34.past 8 rfl).trans ((u33.past 8 rfl).trans ((u32.past 8 rfl).trans ((u31.past 8 rfl).trans ((u30.past 8 rfl).trans ((u29.past 8 rfl).trans ((u28.past 8 rfl).trans ((u27.past 8 rfl).trans ((u26.past 8 rfl).trans ((u25.past 8 rfl).trans ((q24 8 rfl).trans ((q18 8 rfl).trans s6_8)))))))))))))))))))
    have s57_9 : a49.eval (.tmp 9) = .slice A43 (k + 1) cp43 := (u49.here _ rfl)
    have s58_9 := ((q52 9 rfl).trans s57_9)
    have s59_11 := ((q52 11 rfl).trans ((u49.past 11 rfl).trans ((u43.past 11 rfl).trans ((u38.past 11 rfl).trans ((u37.past 11 rfl).trans ((u36.past 11 rfl).trans ((u35.past 11 rfl).trans ((u34.past 11 rfl).trans ((u33.past 11 rfl).trans ((u32.past 11 rfl).trans ((u31.past 11 rfl).trans ((u30.past 11 rfl).trans ((u29.past 11 rfl).trans ((u28.past 11 rfl).trans ((u27.past 11 rfl).trans ((u26.past 11 rfl).trans ((u25.past 11 rfl).trans ((q24 11 rfl).trans ((q18 11 rfl).trans s6_11)))))))))))))))))))
    have s60_12 : a52.eval (.tmp 12) = .int .i64 ((k : Int) + 1) := e52.2.1
    have x61 := (Touch.trans (Touch.via x48 t43.touch (fun jQ hQ => Or.inr (hbase jQ hQ.symm))) (Ext.touch t52))
    have t43.own_62 := (own_keep t43.own t52)
    refine then_norm ?_
    refine ⟨_, ⟨A43, k + 1, cp43, rfl, d52, z52, s53_0, s54_1, s55_2, s56_8, s58_9, s59_11, (s60_12.trans (by first | rfl | (congr 1; omega) | (simp; omega) | simp)), x61, (by rw [litL_succ, ← flat_push]; exact t43.own_62), by omega, no47⟩, ?_⟩; (show _ < _); rw [hmu6]; exact (by omega)
  · have y20 := decide_eq_false c20
    have s63_13 : a18.eval (.tmp 13) = .bool (decide ((k : Int) < bits)) := e18.1
    refine wp_cond_false (s63_13.trans (by rw [y20])) ?_
    refine wp_exit ?_
    repeat (first | (with_reducible refine then_exit ?_) | (with_reducible refine block_here ?_) | (with_reducible refine block_past rfl ?_))
    refine hK3 _ _ ?_
    have s64_9 := ((q18 9 rfl).trans s6_9)
    refine rgs mixed 32 [.eq (.slice A k cp), .eq (.slice A k cp)] [[(9, none)], [(31, some 0)]] d18 z18 (by kernel_rfl) ⟨Ov rfl rfl fun _ _ T ⟨k9, _⟩ => ex_move (k9.trans s64_9), Ov rfl rfl fun _ _ T ⟨k31, _⟩ => ex_assign k31, trivial⟩ ?_
    intro a65 w65 d65 z65 t65 e65 q65
    refine wp_ret ?_
    have s66_8 : a65.eval (.tmp 8) = .slice A k cp := e65.2.1
    repeat (first | (with_reducible refine then_ret ?_) | (with_reducible refine block_ret ?_))
    refine retl (rs := [.tmp 8]) Try.results57 ⟨s66_8, trivial⟩ d65 ?_
    have f17_67 := (own_keep (own_keep f17 t18) t65)
    have x68 := (Touch.trans (Touch.trans x6 (Ext.touch t18)) (Ext.touch t65))
    have hk : k = bits.toNat := by omega
    subst hk
    exact ⟨_, _, rfl, f17_67, (x68).ext, hbase⟩

set_option maxRecDepth 100000 in
set_option maxHeartbeats 4000000 in
theorem c_Cube_ {w : World} {b : Nat} {Fp : Nat → Prop} {A : List N3} {most : Int} (H : ArenaAt w b Fp A most) (hW : Wf A) (hm : (A.length : Int) ≤ most) (hm2 : most ≤ 262144) {Q : Option Addr} {L : List Lt} {cq : Nat} (HL : w.ownsRow 0 133 2 (.slice Q L.length cq) L.length (flat lvs_ L)) (hL : Cubic L) (hLl : L.length ≤ 104) (hout : ∀ j, (Value.slice Q L.length cq).ownBlock = some j → ¬ Fp j) : Calls Try.prog 56 #[.pointer (some ⟨b, 0, none⟩), .slice Q L.length cq] w fun e w' => ∃ Fp' A' r c, e = .returned (.tuple #[.int .i64 r, .int .i64 c]) ∧ ArenaAt w' b Fp' A' most ∧ Mut Fp Fp' w w' ∧ Res A A' most c (Okn A' r ∧ ∀ v, den A' v r = cubeD L v) ∧ (c ≠ 0 → A' = A ∧ r = 0) ∧ (L = [] → c = 0 ∧ r = 1) ∧ (A', r, c) = cubeF A most L := by
  have hl2 := hW.len
  refine enter 82 Try.ntmps56 Try.func56 rfl (Nat.le_of_ble_eq_true rfl) fun a0 d0 z0 hargs => ?_
  have s0_0 : a0.eval (.tmp 0) = .pointer (some ⟨b, 0, none⟩) := hargs 0 _ rfl
  have s0_1 : a0.eval (.tmp 1) = .slice Q L.length cq := hargs 1 _ rfl
  have x0 := Touch.refl Fp w
  refine rgs mixed 82 [.eq (.int .i64 0), .eq (.int .i64 0)] [[], []] d0 z0 (by kernel_rfl) ⟨Ov rfl rfl fun _ _ T _ => ex_assign rfl, Ov rfl rfl fun _ _ T _ => ex_assign rfl, trivial⟩ ?_
  intro a1 w1 d1 z1 t1 e1 q1
  refine wp_seq_k fun K2 hK2 => ?_
  have s3_0 := ((q1 0 rfl).trans s0_0)
  refine rgs mixed 82 [.eq (.pointer (some ⟨b, 0, none⟩)), .eq (.bool false)] [[(0, none)], [(14, some 0)]] d1 z1 (by kernel_rfl) ⟨Ov rfl rfl fun _ _ T ⟨k0, _⟩ => ex_move (k0.trans s3_0), Ov rfl rfl fun _ _ T ⟨k14, _⟩ => ex_ptr_eql_nil k14 rfl (by kernel_rfl), trivial⟩ ?_
  intro a4 w4 d4 z4 t4 e4 q4
  have s5_15 : a4.eval (.tmp 15) = .bool false := e4.2.1
  refine wp_cond_false s5_15 ?_
  refine wp_skip ?_
  repeat (with_reducible refine block_norm ?_)
  refine hK2 _ _ ?_
  refine wp_seq_k fun K6 hK6 => ?_
  have s7_1 := ((q4 1 rfl).trans ((q1 1 rfl).trans s0_1))
  refine rgs mixed 82 [.eq (.slice Q L.length cq), .eq (.int .i64 (L.length : Int)), .eq (.int .i64 0)] [[(1, none)], [(16, some 0)], []] d4 z4 (by kernel_rfl) ⟨Ov rfl rfl fun _ _ T ⟨k1, _⟩ => ex_move (k1.trans s7_1), Ov rfl rfl fun _ _ T ⟨k16, _⟩ => ex_len (cons_ops k16 nil_ops) Try.underlying128, Ov rfl rfl fun _ _ T _ => ex_move rfl, trivial⟩ ?_
  intro a8 w8 d8 z8 t8 e8 q8
  refine wp_block ?_
  have s10_0 := ((q8 0 rfl).trans ((q4 0 rfl).trans s3_0))
  have s11_1 := ((q8 1 rfl).trans s7_1)
  have s12_16 : a8.eval (.tmp 16) = .slice Q L.length cq := e8.1
  have s13_17 : a8.eval (.tmp 17) = .int .i64 (L.length : Int) := e8.2.1
  have s14_18 : a8.eval (.tmp 18) = .int .i64 0 := e8.2.2.1
  have x15 := (Touch.trans (Touch.trans (Touch.trans x0 (Ext.touch t1)) (Ext.touch t4)) (Ext.touch t8))
  have H_16 := (ArenaAt.keep (ArenaAt.keep (ArenaAt.keep H t1) t4) t8)
  have HL_18 := (own_keep (own_keep (own_keep HL t1) t4) t8)
  refine wp_loopg (σ := Nat) (fun nQ aQ wQ => ∃ k : Nat, nQ = (L.length - k) ∧
    aQ.defers = [] ∧
    aQ.tmps.size = 82 ∧
    aQ.eval (.tmp 0) = .pointer (some ⟨b, 0, none⟩) ∧
    aQ.eval (.tmp 1) = .slice Q L.length cq ∧
    aQ.eval (.tmp 16) = .slice Q L.length cq ∧
    aQ.eval (.tmp 17) = .int .i64 (L.length : Int) ∧
    aQ.eval (.tmp 18) = .int .i64 (k : Int) ∧
    Touch (Fp) w wQ ∧
    ArenaAt wQ b Fp A most ∧
    wQ.ownsRow 0 133 2 (.slice Q L.length cq) (L.length) (flat lvs_ L) ∧
    (k ≤ L.length)) (fun nQ => nQ) _ ⟨0, rfl, d8, z8, s10_0, s11_1, s12_16, s13_17, (s14_18.trans (by first | rfl | (congr 1; omega) | (simp; omega) | simp)), x15, H_16, HL_18, Nat.zero_le _⟩ ?_
  rintro nQ9 a9 w9 ⟨k, hmu9, d9, z9, s9_0, s9_1, s9_16, s9_17, s9_18, x9, H_17, HL_19, hk⟩
  refine rgs mixed 82 [.eq (.bool (decide ((k : Int) < (L.length : Int))))] [[(18, none), (17, none)]] d9 z9 (by kernel_rfl) ⟨Ov rfl rfl fun _ _ T ⟨k18, k17, _⟩ => ex_lss (k18.trans s9_18) (k17.trans s9_17), trivial⟩ ?_
  intro a20 w20 d20 z20 t20 e20 q20
  refine wp_seq_k fun K21 hK21 => ?_
  by_cases c22 : (k : Int) < (L.length : Int)
  · have y22 := decide_eq_true c22
    have s23_19 : a20.eval (.tmp 19) = .bool (decide ((k : Int) < (L.length : Int))) := e20.1
    refine wp_cond_true (s23_19.trans (by rw [y22])) ?_
    refine wp_skip ?_
    repeat (with_reducible refine block_norm ?_)
    refine hK21 _ _ ?_
    refine wp_seq_k fun K24 hK24 => ?_
    refine wp_block ?_
    obtain ⟨rw25, hrw25⟩ := own_addr HL (by omega)
    refine wp_seq ?_
    refine seq_begin ?_
    refine sp z20 rfl rfl (ex_move ((q20 18 rfl).trans s9_18)) ?_; intro a26 u26 z26
    refine sp z26 rfl rfl (ex_ixa Try.underlying128 (Try.sizeOf133 _) ((u26.past 16 rfl).trans ((q20 16 rfl).trans s9_16)) hrw25 ((u26.past 18 rfl).trans ((q20 18 rfl).trans s9_18)) (by omega) (by omega)) ?_; intro a27 u27 z27
    have HL_29 := (own_keep HL_19 t20)
    refine sp z27 rfl rfl (ex_loadAgg (cs := [.int .i64 ((at_ L l0 (k : Int)).1), .bool ((at_ L l0 (k : Int)).2)]) (u27.here _ rfl) (Try.isAgg133 _) (Try.sizeOf133 _) (own_ats (us := [.int .i64 ((at_ L l0 (k : Int)).1), .bool ((at_ L l0 (k : Int)).2)]) HL_29 hrw25 lvs2 (at_some' (d := l0) (by rfl) (by omega) (by omega)) 0 rfl)) ?_; intro a28 u28 z28
    refine salloc z28 rfl (zv_133 _) ?_; intro b30 w30 a30 t30 g30 hb30 u30 z30
    have no31 := no_new HL_29 g30
    have H_33 := (ArenaAt.keep H_17 t20)
    have o32 : ¬ Fp b30 := fun hQ => by have := ArenaAt.lt H_33 hQ; omega
    have x35 := (Touch.trans x9 (Ext.touch t20))
    have yb30_34 := Nat.le_trans (Touch.size x35) g30
    refine sp z30 rfl rfl (ex_assign ((u30.past 20 rfl).trans ((u28.past 20 rfl).trans ((u27.past 20 rfl).trans (u26.here _ rfl))))) ?_; intro a36 u36 z36
    refine sstore (cs := [.int .i64 0, .bool false]) (vs := [.int .i64 ((at_ L l0 (k : Int)).1), .bool ((at_ L l0 (k : Int)).2)]) (cs' := [.int .i64 ((at_ L l0 (k : Int)).1), .bool ((at_ L l0 (k : Int)).2)]) z36 rfl ((u36.past 7 rfl).trans (u30.here _ rfl)) ((u36.past 22 rfl).trans ((u30.past 22 rfl).trans (u28.here _ rfl))) hb30 (Try.sizeOf133 _) rfl rfl (by decide) (Nat.le_of_ble_eq_true rfl) rfl rfl ?_; intro w37 a37 t37 u37 z37
    have d38 := (u37.defs.trans (u36.defs.trans (u30.defs.trans (u28.defs.trans (u27.defs.trans (u26.defs.trans d20))))))
    refine seq_end ?_
    refine then_norm ?_
    by_cases c41 : 0 < (k : Int)
    · have y41 := decide_eq_true c41
      have hx := hL.at_ (i := (k : Int)) (by omega) (by omega)
      have kn42 : (decide (((at_ L l0 (k : Int)).1) < 0)) = false := decide_eq_false (by omega)
      have kn43 : (decide (104 ≤ ((at_ L l0 (k : Int)).1))) = false := decide_eq_false (by omega)
      have hst := hL.step (i := (k : Int) - 1) (by omega) (by omega)
      rw [show (k : Int) - 1 + 1 = k by omega] at hst
      have kn44 : (decide (((at_ L l0 (k : Int)).1) ≤ ((at_ L l0 ((k : Int) - 1)).1))) = false := decide_eq_false (by omega)
      have s45_7 : a30.eval (.tmp 7) = .pointer (some ⟨b30, 0, none⟩) := (u30.here _ rfl)
      have s46_7 := ((u37.past 7 rfl).trans ((u36.past 7 rfl).trans s45_7))
      have s47_6 : a36.eval (.tmp 6) = .int .i64 (k : Int) := (u36.here _ rfl)
      have s48_6 := ((u37.past 6 rfl).trans s47_6)
      have s49_1 := ((u37.past 1 rfl).trans ((u36.past 1 rfl).trans ((u30.past 1 rfl).trans ((u28.past 1 rfl).trans ((u27.past 1 rfl).trans ((u26.past 1 rfl).trans ((q20 1 rfl).trans s9_1)))))))
      have HL_50 := (own_touch (own_keep HL_29 t30) t37.touch (fun jQ hQ eQ => no31 jQ hQ eQ))
      refine rgs mixed 82 [.eq (.pointer (some ⟨b30, 0, none⟩)), .eq (.int .i64 ((at_ L l0 (k : Int)).1)), .eq (.bool (decide (((at_ L l0 (k : Int)).1) < 0))), .eq (.bool (decide (((at_ L l0 (k : Int)).1) < 0))), .eq (.pointer (some ⟨b30, 0, none⟩)), .eq (.int .i64 ((at_ L l0 (k : Int)).1)), .eq (.bool (decide (104 ≤ ((at_ L l0 (k : Int)).1)))), .eq (.bool (decide (104 ≤ ((at_ L l0 (k : Int)).1)))), .eq (.bool (decide (104 ≤ ((at_ L l0 (k : Int)).1)))), .eq (.int .i64 (k : Int)), .eq (.bool (decide (0 < (k : Int)))), .eq (.bool (decide (0 < (k : Int)))), .eq (.slice Q L.length cq), .eq (.int .i64 (k : Int)), .eq (.int .i64 ((k : Int) - 1)), .eq (.pointer (some ⟨rw25, Int.toNat ((k : Int) - 1) * 2, none⟩)), .eq (.pointer (some ⟨rw25, Int.toNat ((k : Int) - 1) * 2, none⟩)), .eq (.int .i64 ((at_ L l0 ((k : Int) - 1)).1)), .eq (.pointer (some ⟨b30, 0, none⟩)), .eq (.int .i64 ((at_ L l0 (k : Int)).1)), .eq (.bool (decide (((at_ L l0 (k : Int)).1) ≤ ((at_ L l0 ((k : Int) - 1)).1)))), .eq (.bool (decide (((at_ L l0 (k : Int)).1) ≤ ((at_ L l0 ((k : Int) - 1)).1)))), .eq (.bool (decide (((at_ L l0 (k : Int)).1) ≤ ((at_ L l0 ((k : Int) - 1)).1))))] [[(7, none)], [(23, some 0)], [(24, some 1)], [(25, some 2)], [(7, none), (26, some 3)], [(27, some 4), (26, some 3)], [(28, some 5), (26, some 3)], [(26, some 3), (29, some 6)], [(30, some 7)], [(6, none), (31, some 8)], [(32, some 9), (31, some 8)], [(33, some 10), (31, some 8)], [(1, none), (34, some 11)], [(6, none), (34, some 11)], [(36, some 13), (34, some 11)], [(35, some 12), (37, some 14), (34, some 11)], [(38, some 15), (34, some 11)], [(39, some 16), (34, some 11)], [(7, none), (34, some 11)], [(41, some 18), (34, some 11)], [(40, some 17), (42, some 19), (34, some 11)], [(34, some 11), (43, some 20), (31, some 8)], [(31, some 8), (44, some 21)]] d38 z37 (by kernel_rfl) ⟨Ov rfl rfl fun _ _ T ⟨k7, _⟩ => ex_fieldAddr (k7.trans s46_7) (fa_133_0 _ _ _),
        Ov rfl rfl fun _ _ T ⟨k23, _⟩ => ex_load k23 (Try.isAgg3 _) (cell_of (Ext.keep T.ext t37.here) rfl),
        Ov rfl rfl fun _ _ T ⟨k24, _⟩ => ex_lss k24 rfl,
        Ov rfl rfl fun _ _ T ⟨k25, _⟩ => ex_move k25,
        Oy rfl rfl rfl fun _ _ T ⟨k7, k26, _⟩ => ⟨(k26.trans (by rw [kn42])), ex_fieldAddr (k7.trans s46_7) (fa_133_0 _ _ _)⟩,
        Oy rfl rfl rfl fun _ _ T ⟨k27, k26, _⟩ => ⟨(k26.trans (by rw [kn42])), ex_load k27 (Try.isAgg3 _) (cell_of (Ext.keep T.ext t37.here) rfl)⟩,
        Oy rfl rfl rfl fun _ _ T ⟨k28, k26, _⟩ => ⟨(k26.trans (by rw [kn42])), ex_geq k28 rfl⟩,
        Ov rfl rfl fun _ _ T ⟨k26, k29, _⟩ => ex_pick_f (k26.trans (by rw [kn42])) k29,
        Ov rfl rfl fun _ _ T ⟨k30, _⟩ => ex_move k30,
        Oy rfl rfl rfl fun _ _ T ⟨k6, k31, _⟩ => ⟨(k31.trans (by rw [kn43])), ex_move (k6.trans s48_6)⟩,
        Oy rfl rfl rfl fun _ _ T ⟨k32, k31, _⟩ => ⟨(k31.trans (by rw [kn43])), ex_gtr k32 rfl⟩,
        Oy rfl rfl rfl fun _ _ T ⟨k33, k31, _⟩ => ⟨(k31.trans (by rw [kn43])), ex_move k33⟩,
        Oy rfl rfl rfl fun _ _ T ⟨k1, k34, _⟩ => ⟨(k34.trans (by rw [y41])), ex_move (k1.trans s49_1)⟩,
        Oy rfl rfl rfl fun _ _ T ⟨k6, k34, _⟩ => ⟨(k34.trans (by rw [y41])), ex_move (k6.trans s48_6)⟩,
        Oy rfl rfl rfl fun _ _ T ⟨k36, k34, _⟩ => ⟨(k34.trans (by rw [y41])), ex_sub64 k36 rfl (by omega)⟩,
        Oy rfl rfl rfl fun _ _ T ⟨k35, k37, k34, _⟩ => ⟨(k34.trans (by rw [y41])), ex_ixa Try.underlying128 (Try.sizeOf133 _) k35 hrw25 k37 (by omega) (by omega)⟩,
        Oy rfl rfl rfl fun _ _ T ⟨k38, k34, _⟩ => ⟨(k34.trans (by rw [y41])), ex_fieldAddr k38 (fa_133_0 _ _ _)⟩,
        Oy rfl rfl rfl fun _ _ T ⟨k39, k34, _⟩ => ⟨(k34.trans (by rw [y41])), ex_load k39 (Try.isAgg3 _) (own_at (own_keep HL_50 T.ext) hrw25 lvs2 (at_some' (d := l0) (by rfl) (by omega) (by omega)) 0 rfl)⟩,
        Oy rfl rfl rfl fun _ _ T ⟨k7, k34, _⟩ => ⟨(k34.trans (by rw [y41])), ex_fieldAddr (k7.trans s46_7) (fa_133_0 _ _ _)⟩,
        Oy rfl rfl rfl fun _ _ T ⟨k41, k34, _⟩ => ⟨(k34.trans (by rw [y41])), ex_load k41 (Try.isAgg3 _) (cell_of (Ext.keep T.ext t37.here) rfl)⟩,
        Oy rfl rfl rfl fun _ _ T ⟨k40, k42, k34, _⟩ => ⟨(k34.trans (by rw [y41])), ex_geq k40 k42⟩,
        Oy rfl rfl rfl fun _ _ T ⟨k34, k43, k31, _⟩ => ⟨(k31.trans (by rw [kn43])), ex_pick_t (k34.trans (by rw [y41])) k43⟩,
        Ov rfl rfl fun _ _ T ⟨k31, k44, _⟩ => ex_pick_f (k31.trans (by rw [kn43])) k44,
        trivial⟩ ?_
      intro a51 w51 d51 z51 t51 e51 q51
      have s52_45 : a51.eval (.tmp 45) = .bool (decide (((at_ L l0 (k : Int)).1) ≤ ((at_ L l0 ((k : Int) - 1)).1))) := e51.2.2.2.2.2.2.2.2.2.2.2.2.2.2.2.2.2.2.2.2.2.2.1
      refine wp_cond_false (s52_45.trans (by rw [kn44])) ?_
      refine wp_skip ?_
      repeat (with_reducible refine block_norm ?_)
      refine hK24 _ _ ?_
      have s53_18 := ((q51 18 rfl).trans ((u37.past 18 rfl).trans ((u36.past 18 rfl).trans ((u30.past 18 rfl).trans ((u28.past 18 rfl).trans ((u27.past 18 rfl).trans ((u26.past 18 rfl).trans ((q20 18 rfl).trans s9_18))))))))
      refine rg mixed 82 [.eq (.int .i64 ((k : Int) + 1)), .eq (.int .i64 ((k : Int) + 1))] [[(18, none)], [(46, some 0)]] d51 z51 (by kernel_rfl) ⟨Ov rfl rfl fun _ _ T ⟨k18, _⟩ => ex_add64 (k18.trans s53_18) rfl (by omega), Ov rfl rfl fun _ _ T ⟨k46, _⟩ => ex_move k46, trivial⟩ ?_
      intro a54 w54 d54 z54 t54 e54 q54
      repeat (with_reducible refine block_norm ?_)
      have s55_0 := ((q54 0 rfl).trans ((q51 0 rfl).trans ((u37.past 0 rfl).trans ((u36.past 0 rfl).trans ((u30.past 0 rfl).trans ((u28.past 0 rfl).trans ((u27.past 0 rfl).trans ((u26.past 0 rfl).trans ((q20 0 rfl).trans s9_0)))))))))
      have s56_1 := ((q54 1 rfl).trans ((q51 1 rfl).trans s49_1))
      have s57_16 := ((q54 16 rfl).trans ((q51 16 rfl).trans ((u37.past 16 rfl).trans ((u36.past 16 rfl).trans ((u30.past 16 rfl).trans ((u28.past 16 rfl).trans ((u27.past 16 rfl).trans ((u26.past 16 rfl).trans ((q20 16 rfl).trans s9_16)))))))))
      have s58_17 := ((q54 17 rfl).trans ((q51 17 rfl).trans ((u37.past 17 rfl).trans ((u36.past 17 rfl).trans ((u30.past 17 rfl).trans ((u28.past 17 rfl).trans ((u27.past 17 rfl).trans ((u26.past 17 rfl).trans ((q20 17 rfl).trans s9_17)))))))))
      have s59_18 : a54.eval (.tmp 18) = .int .i64 ((k : Int) + 1) := e54.2.1
      have x60 := (Touch.trans (Touch.trans (Touch.turn (Touch.trans x35 (Ext.touch t30)) t37 (Or.inr yb30_34)) (Ext.touch t51)) (Ext.touch t54))
      have H_61 := (ArenaAt.keep (ArenaAt.keep (ArenaAt.turn (ArenaAt.keep H_33 t30) t37 o32) t51) t54)
      have HL_62 := (own_keep (own_keep HL_50 t51) t54)
      refine then_norm ?_
      refine ⟨_, ⟨k + 1, rfl, d54, z54, s55_0, s56_1, s57_16, s58_17, (s59_18.trans (by first | rfl | (congr 1; omega) | (simp; omega) | simp)), x60, H_61, HL_62, by omega⟩, ?_⟩; (show _ < _); rw [hmu9]; exact by omega
    · have y41 := decide_eq_false c41
      have hx := hL.at_ (i := (k : Int)) (by omega) (by omega)
      have kn63 : (decide (((at_ L l0 (k : Int)).1) < 0)) = false := decide_eq_false (by omega)
      have kn64 : (decide (104 ≤ ((at_ L l0 (k : Int)).1))) = false := decide_eq_false (by omega)
      have s65_7 : a30.eval (.tmp 7) = .pointer (some ⟨b30, 0, none⟩) := (u30.here _ rfl)
      have s66_7 := ((u37.past 7 rfl).trans ((u36.past 7 rfl).trans s65_7))
      have s67_6 : a36.eval (.tmp 6) = .int .i64 (k : Int) := (u36.here _ rfl)
      have s68_6 := ((u37.past 6 rfl).trans s67_6)
      refine rgs mixed 82 [.eq (.pointer (some ⟨b30, 0, none⟩)), .eq (.int .i64 ((at_ L l0 (k : Int)).1)), .eq (.bool (decide (((at_ L l0 (k : Int)).1) < 0))), .eq (.bool (decide (((at_ L l0 (k : Int)).1) < 0))), .eq (.pointer (some ⟨b30, 0, none⟩)), .eq (.int .i64 ((at_ L l0 (k : Int)).1)), .eq (.bool (decide (104 ≤ ((at_ L l0 (k : Int)).1)))), .eq (.bool (decide (104 ≤ ((at_ L l0 (k : Int)).1)))), .eq (.bool (decide (104 ≤ ((at_ L l0 (k : Int)).1)))), .eq (.int .i64 (k : Int)), .eq (.bool (decide (0 < (k : Int)))), .eq (.bool (decide (0 < (k : Int)))), .eq undef, .eq undef, .eq undef, .eq undef, .eq undef, .eq undef, .eq undef, .eq undef, .eq undef, .eq (.bool false), .eq (.bool false)] [[(7, none)], [(23, some 0)], [(24, some 1)], [(25, some 2)], [(7, none), (26, some 3)], [(27, some 4), (26, some 3)], [(28, some 5), (26, some 3)], [(26, some 3), (29, some 6)], [(30, some 7)], [(6, none), (31, some 8)], [(32, some 9), (31, some 8)], [(33, some 10), (31, some 8)], [(1, none), (34, some 11)], [(6, none), (34, some 11)], [(36, some 13), (34, some 11)], [(35, some 12), (37, some 14), (34, some 11)], [(38, some 15), (34, some 11)], [(39, some 16), (34, some 11)], [(7, none), (34, some 11)], [(41, some 18), (34, some 11)], [(40, some 17), (42, some 19), (34, some 11)], [(34, some 11), (43, some 20), (31, some 8)], [(31, some 8), (44, some 21)]] d38 z37 (by kernel_rfl) ⟨Ov rfl rfl fun _ _ T ⟨k7, _⟩ => ex_fieldAddr (k7.trans s66_7) (fa_133_0 _ _ _),
        Ov rfl rfl fun _ _ T ⟨k23, _⟩ => ex_load k23 (Try.isAgg3 _) (cell_of (Ext.keep T.ext t37.here) rfl),
        Ov rfl rfl fun _ _ T ⟨k24, _⟩ => ex_lss k24 rfl,
        Ov rfl rfl fun _ _ T ⟨k25, _⟩ => ex_move k25,
        Oy rfl rfl rfl fun _ _ T ⟨k7, k26, _⟩ => ⟨(k26.trans (by rw [kn63])), ex_fieldAddr (k7.trans s66_7) (fa_133_0 _ _ _)⟩,
        Oy rfl rfl rfl fun _ _ T ⟨k27, k26, _⟩ => ⟨(k26.trans (by rw [kn63])), ex_load k27 (Try.isAgg3 _) (cell_of (Ext.keep T.ext t37.here) rfl)⟩,
        Oy rfl rfl rfl fun _ _ T ⟨k28, k26, _⟩ => ⟨(k26.trans (by rw [kn63])), ex_geq k28 rfl⟩,
        Ov rfl rfl fun _ _ T ⟨k26, k29, _⟩ => ex_pick_f (k26.trans (by rw [kn63])) k29,
        Ov rfl rfl fun _ _ T ⟨k30, _⟩ => ex_move k30,
        Oy rfl rfl rfl fun _ _ T ⟨k6, k31, _⟩ => ⟨(k31.trans (by rw [kn64])), ex_move (k6.trans s68_6)⟩,
        Oy rfl rfl rfl fun _ _ T ⟨k32, k31, _⟩ => ⟨(k31.trans (by rw [kn64])), ex_gtr k32 rfl⟩,
        Oy rfl rfl rfl fun _ _ T ⟨k33, k31, _⟩ => ⟨(k31.trans (by rw [kn64])), ex_move k33⟩,
        On rfl rfl rfl fun _ _ ⟨k1, k34, _⟩ => .inl (k34.trans (by rw [y41]; rfl)),
        On rfl rfl rfl fun _ _ ⟨k6, k34, _⟩ => .inl (k34.trans (by rw [y41]; rfl)),
        On rfl rfl rfl fun _ _ ⟨k36, k34, _⟩ => .inl (k34.trans (by rw [y41]; rfl)),
        On rfl rfl rfl fun _ _ ⟨k35, k37, k34, _⟩ => .inl (k34.trans (by rw [y41]; rfl)),
        On rfl rfl rfl fun _ _ ⟨k38, k34, _⟩ => .inl (k34.trans (by rw [y41]; rfl)),
        On rfl rfl rfl fun _ _ ⟨k39, k34, _⟩ => .inl (k34.trans (by rw [y41]; rfl)),
        On rfl rfl rfl fun _ _ ⟨k7, k34, _⟩ => .inl (k34.trans (by rw [y41]; rfl)),
        On rfl rfl rfl fun _ _ ⟨k41, k34, _⟩ => .inl (k34.trans (by rw [y41]; rfl)),
        On rfl rfl rfl fun _ _ ⟨k40, k42, k34, _⟩ => .inl (k34.trans (by rw [y41]; rfl)),
        Oy rfl rfl rfl fun _ _ T ⟨k34, k43, k31, _⟩ => ⟨(k31.trans (by rw [kn64])), ex_pick_f (k34.trans (by rw [y41])) rfl⟩,
        Ov rfl rfl fun _ _ T ⟨k31, k44, _⟩ => ex_pick_f (k31.trans (by rw [kn64])) k44,
        trivial⟩ ?_
      intro a69 w69 d69 z69 t69 e69 q69
      have s70_45 : a69.eval (.tmp 45) = .bool false := e69.2.2.2.2.2.2.2.2.2.2.2.2.2.2.2.2.2.2.2.2.2.2.1
      refine wp_cond_false s70_45 ?_
      refine wp_skip ?_
      repeat (with_reducible refine block_norm ?_)
      refine hK24 _ _ ?_
      have s71_18 := ((q69 18 rfl).trans ((u37.past 18 rfl).trans ((u36.past 18 rfl).trans ((u30.past 18 rfl).trans ((u28.past 18 rfl).trans ((u27.past 18 rfl).trans ((u26.past 18 rfl).trans ((q20 18 rfl).trans s9_18))))))))
      refine rg mixed 82 [.eq (.int .i64 ((k : Int) + 1)), .eq (.int .i64 ((k : Int) + 1))] [[(18, none)], [(46, some 0)]] d69 z69 (by kernel_rfl) ⟨Ov rfl rfl fun _ _ T ⟨k18, _⟩ => ex_add64 (k18.trans s71_18) rfl (by omega), Ov rfl rfl fun _ _ T ⟨k46, _⟩ => ex_move k46, trivial⟩ ?_
      intro a72 w72 d72 z72 t72 e72 q72
      repeat (with_reducible refine block_norm ?_)
      have s73_0 := ((q72 0 rfl).trans ((q69 0 rfl).trans ((u37.past 0 rfl).trans ((u36.past 0 rfl).trans ((u30.past 0 rfl).trans ((u28.past 0 rfl).trans ((u27.past 0 rfl).trans ((u26.past 0 rfl).trans ((q20 0 rfl).trans s9_0)))))))))
      have s74_1 := ((q72 1 rfl).trans ((q69 1 rfl).trans ((u37.past 1 rfl).trans ((u36.past 1 rfl).trans ((u30.past 1 rfl).trans ((u28.past 1 rfl).trans ((u27.past 1 rfl).trans ((u26.past 1 rfl).trans ((q20 1 rfl).trans s9_1)))))))))
      have s75_16 := ((q72 16 rfl).trans ((q69 16 rfl).trans ((u37.past 16 rfl).trans ((u36.past 16 rfl).trans ((u30.past 16 rfl).trans ((u28.past 16 rfl).trans ((u27.past 16 rfl).trans ((u26.past 16 rfl).trans ((q20 16 rfl).trans s9_16)))))))))
      have s76_17 := ((q72 17 rfl).trans ((q69 17 rfl).trans ((u37.past 17 rfl).trans ((u36.past 17 rfl).trans ((u30.past 17 rfl).trans ((u28.past 17 rfl).trans ((u27.past 17 rfl).trans ((u26.past 17 rfl).trans ((q20 17 rfl).trans s9_17)))))))))
      have s77_18 : a72.eval (.tmp 18) = .int .i64 ((k : Int) + 1) := e72.2.1
      have x78 := (Touch.trans (Touch.trans (Touch.turn (Touch.trans x35 (Ext.touch t30)) t37 (Or.inr yb30_34)) (Ext.touch t69)) (Ext.touch t72))
      have H_79 := (ArenaAt.keep (ArenaAt.keep (ArenaAt.turn (ArenaAt.keep H_33 t30) t37 o32) t69) t72)
      have HL_80 := (own_keep (own_keep (own_touch (own_keep HL_29 t30) t37.touch (fun jQ hQ eQ => no31 jQ hQ eQ)) t69) t72)
      refine then_norm ?_
      refine ⟨_, ⟨k + 1, rfl, d72, z72, s73_0, s74_1, s75_16, s76_17, (s77_18.trans (by first | rfl | (congr 1; omega) | (simp; omega) | simp)), x78, H_79, HL_80, by omega⟩, ?_⟩; (show _ < _); rw [hmu9]; exact by omega
  · have y22 := decide_eq_false c22
    have s81_19 : a20.eval (.tmp 19) = .bool (decide ((k : Int) < (L.length : Int))) := e20.1
    refine wp_cond_false (s81_19.trans (by rw [y22])) ?_
    refine wp_exit ?_
    repeat (first | (with_reducible refine then_exit ?_) | (with_reducible refine block_here ?_) | (with_reducible refine block_past rfl ?_))
    refine hK6 _ _ ?_
    refine wp_seq ?_
    refine seq_begin ?_
    refine sp z20 rfl rfl (ex_move ((q20 0 rfl).trans s9_0)) ?_; intro a82 u82 z82
    have H_84 := (ArenaAt.keep H_17 t20)
    refine scx z82 rfl rfl (exl_call Try.func16 rfl rfl (cons_ops (u82.here _ rfl) nil_ops)) (a_len H_84) ?_; intro w83 a83 t83 u83 z83
    refine sp z83 rfl rfl (ex_assign (u83.here _ rfl)) ?_; intro a85 u85 z85
    have d86 := (u85.defs.trans (u83.defs.trans (u82.defs.trans d20)))
    refine seq_end ?_
    refine then_norm ?_
    refine rgs mixed 82 [.eq (.int .i64 1)] [[]] d86 z85 (by kernel_rfl) ⟨Ov rfl rfl fun _ _ T _ => ex_assign rfl, trivial⟩ ?_
    intro a87 w87 d87 z87 t87 e87 q87
    refine wp_seq_k fun K88 hK88 => ?_
    have s89_1 := ((q87 1 rfl).trans ((u85.past 1 rfl).trans ((u83.past 1 rfl).trans ((u82.past 1 rfl).trans ((q20 1 rfl).trans s9_1)))))
    refine rgs mixed 82 [.eq (.slice Q L.length cq), .eq (.int .i64 (L.length : Int)), .eq (.int .i64 ((L.length : Int) - 1)), .eq (.int .i64 ((L.length : Int) - 1))] [[(1, none)], [(49, some 0)], [(50, some 1)], [(51, some 2)]] d87 z87 (by kernel_rfl) ⟨Ov rfl rfl fun _ _ T ⟨k1, _⟩ => ex_move (k1.trans s89_1),
      Ov rfl rfl fun _ _ T ⟨k49, _⟩ => ex_len (cons_ops k49 nil_ops) Try.underlying128,
      Ov rfl rfl fun _ _ T ⟨k50, _⟩ => ex_sub64 k50 rfl (by omega),
      Ov rfl rfl fun _ _ T ⟨k51, _⟩ => ex_assign k51,
      trivial⟩ ?_
    intro a90 w90 d90 z90 t90 e90 q90
    refine wp_block ?_
    have H_91 := (ArenaAt.keep (ArenaAt.keep (ArenaAt.keep H_84 t83) t87) t90)
    have s93_0 := ((q90 0 rfl).trans ((q87 0 rfl).trans ((u85.past 0 rfl).trans ((u83.past 0 rfl).trans ((u82.past 0 rfl).trans ((q20 0 rfl).trans s9_0))))))
    have s94_1 := ((q90 1 rfl).trans s89_1)
    have s95_8 : a85.eval (.tmp 8) = .int .i64 (A.length : Int) := (u85.here _ rfl)
    have s96_8 := ((q90 8 rfl).trans ((q87 8 rfl).trans s95_8))
    have s97_9 : a87.eval (.tmp 9) = .int .i64 1 := e87.1
    have s98_9 := ((q90 9 rfl).trans s97_9)
    have s99_10 : a90.eval (.tmp 10) = .int .i64 ((L.length : Int) - 1) := e90.2.2.2.1
    have x100 := (Touch.trans (Touch.trans (Touch.trans (Touch.trans x9 (Ext.touch t20)) (Ext.touch t83)) (Ext.touch t87)) (Ext.touch t90))
    have HL_101 := (own_keep (own_keep (own_keep (own_keep HL_19 t20) t83) t87) t90)
    refine wp_loopg (σ := Nat) (fun nQ aQ wQ => ∃ i : Int, ∃ A1 : List N3, ∃ Fp1 : Nat → Prop, ∃ r : Int, nQ = ((i + 1).toNat) ∧
      aQ.defers = [] ∧
      aQ.tmps.size = 82 ∧
      aQ.eval (.tmp 0) = .pointer (some ⟨b, 0, none⟩) ∧
      aQ.eval (.tmp 1) = .slice Q L.length cq ∧
      aQ.eval (.tmp 8) = .int .i64 (A.length : Int) ∧
      aQ.eval (.tmp 9) = .int .i64 r ∧
      aQ.eval (.tmp 10) = .int .i64 i ∧
      Touch (Fp) w wQ ∧
      wQ.ownsRow 0 133 2 (.slice Q L.length cq) (L.length) (flat lvs_ L) ∧
      ArenaAt wQ b Fp1 A1 most ∧
      (-1 ≤ i) ∧
      (i < L.length) ∧
      (CubeInv A A1 most L i r) ∧
      (∀ j, Fp1 j → (Fp) j ∨ w.heap.size ≤ j) ∧
      (∀ j, (Value.slice Q L.length cq).ownBlock = some j → ¬ Fp1 j)) (fun nQ => nQ) _ ⟨(L.length : Int) - 1, A, Fp, 1, rfl, d90, z90, s93_0, s94_1, s96_8, (s98_9.trans (by first | rfl | (congr 1; omega) | (simp; omega) | simp)), (s99_10.trans (by first | rfl | (congr 1; omega) | (simp; omega) | simp)), x100, HL_101, H_91, by omega, by omega, cube_start hW hm hL, fun jQ hQ => Or.inl hQ, hout⟩ ?_
    rintro nQ92 a92 w92 ⟨i, A1, Fp1, r, hmu92, d92, z92, s92_0, s92_1, s92_8, s92_9, s92_10, x92, HL_102, f103, hi0, hi1, hI, hin, hout1⟩
    have len2 := hI.wf.len; have room1 := hI.room
    refine wp_seq_k fun K104 hK104 => ?_
    refine rgs mixed 82 [.eq (.int .i64 i), .eq (.bool (decide (0 ≤ i)))] [[(10, none)], [(52, some 0)]] d92 z92 (by kernel_rfl) ⟨Ov rfl rfl fun _ _ T ⟨k10, _⟩ => ex_move (k10.trans s92_10), Ov rfl rfl fun _ _ T ⟨k52, _⟩ => ex_geq k52 rfl, trivial⟩ ?_
    intro a105 w105 d105 z105 t105 e105 q105
    by_cases c106 : 0 ≤ i
    · have y106 := decide_eq_true c106
      have s107_53 : a105.eval (.tmp 53) = .bool (decide (0 ≤ i)) := e105.2.1
      refine wp_cond_true (s107_53.trans (by rw [y106])) ?_
      refine wp_skip ?_
      repeat (with_reducible refine block_norm ?_)
      refine hK104 _ _ ?_
      refine wp_seq_k fun K108 hK108 => ?_
      refine wp_block ?_
      have s109_9 := ((q105 9 rfl).trans s92_9)
      refine rgs mixed 82 [.eq (.int .i64 r), .eq (.int .i64 r), .eq (.int .i64 0)] [[(9, none)], [(56, some 0)], []] d105 z105 (by kernel_rfl) ⟨Ov rfl rfl fun _ _ T ⟨k9, _⟩ => ex_move (k9.trans s109_9), Ov rfl rfl fun _ _ T ⟨k56, _⟩ => ex_assign k56, Ov rfl rfl fun _ _ T _ => ex_assign rfl, trivial⟩ ?_
      intro a110 w110 d110 z110 t110 e110 q110
      refine wp_seq_k fun K111 hK111 => ?_
      obtain ⟨rw112, hrw112⟩ := own_addr HL (by omega)
      have s113_1 := ((q110 1 rfl).trans ((q105 1 rfl).trans s92_1))
      have s114_10 := ((q110 10 rfl).trans ((q105 10 rfl).trans s92_10))
      have HL_115 := (own_keep (own_keep HL_102 t105) t110)
      refine rgs mixed 82 [.eq (.slice Q L.length cq), .eq (.int .i64 i), .eq (.pointer (some ⟨rw112, Int.toNat i * 2, none⟩)), .eq (.pointer (some ⟨rw112, Int.toNat i * 2 + 1, none⟩)), .eq (.bool ((at_ L l0 i).2))] [[(1, none)], [(10, none)], [(57, some 0), (58, some 1)], [(59, some 2)], [(60, some 3)]] d110 z110 (by kernel_rfl) ⟨Ov rfl rfl fun _ _ T ⟨k1, _⟩ => ex_move (k1.trans s113_1),
        Ov rfl rfl fun _ _ T ⟨k10, _⟩ => ex_move (k10.trans s114_10),
        Ov rfl rfl fun _ _ T ⟨k57, k58, _⟩ => ex_ixa Try.underlying128 (Try.sizeOf133 _) k57 hrw112 k58 (by omega) (by omega),
        Ov rfl rfl fun _ _ T ⟨k59, _⟩ => ex_fieldAddr k59 (fa_133_1 _ _ _),
        Ov rfl rfl fun _ _ T ⟨k60, _⟩ => ex_load k60 (Try.isAgg4 _) (own_at (own_keep HL_115 T.ext) hrw112 lvs2 (at_some' (d := l0) (by rfl) (by omega) (by omega)) 1 rfl),
        trivial⟩ ?_
      intro a116 w116 d116 z116 t116 e116 q116
      rcases Bool.eq_false_or_eq_true ((at_ L l0 i).2) with y117 | y117
      · have c117 := y117
        have s118_61 : a116.eval (.tmp 61) = .bool ((at_ L l0 i).2) := e116.2.2.2.2.1
        refine wp_cond_true (s118_61.trans (by rw [y117])) ?_
        have s119_9 := ((q116 9 rfl).trans ((q110 9 rfl).trans s109_9))
        refine rg mixed 82 [.eq (.int .i64 r), .eq (.int .i64 0), .eq (.int .i64 r)] [[(9, none)], [], [(62, some 0)]] d116 z116 (by kernel_rfl) ⟨Ov rfl rfl fun _ _ T ⟨k9, _⟩ => ex_move (k9.trans s119_9), Ov rfl rfl fun _ _ T _ => ex_assign rfl, Ov rfl rfl fun _ _ T ⟨k62, _⟩ => ex_assign k62, trivial⟩ ?_
        intro a120 w120 d120 z120 t120 e120 q120
        repeat (with_reducible refine block_norm ?_)
        refine hK111 _ _ ?_
        refine rgs mixed 82 [.eq (.int .i64 0)] [[]] d120 z120 (by kernel_rfl) ⟨Ov rfl rfl fun _ _ T _ => ex_assign rfl, trivial⟩ ?_
        intro a121 w121 d121 z121 t121 e121 q121
        refine wp_seq ?_
        refine seq_begin ?_
        refine sp z121 rfl rfl (ex_move ((q121 0 rfl).trans ((q120 0 rfl).trans ((q116 0 rfl).trans ((q110 0 rfl).trans ((q105 0 rfl).trans s92_0)))))) ?_; intro a122 u122 z122
        refine sp z122 rfl rfl (ex_move ((u122.past 1 rfl).trans ((q121 1 rfl).trans ((q120 1 rfl).trans ((q116 1 rfl).trans s113_1))))) ?_; intro a123 u123 z123
        refine sp z123 rfl rfl (ex_move ((u123.past 10 rfl).trans ((u122.past 10 rfl).trans ((q121 10 rfl).trans ((q120 10 rfl).trans ((q116 10 rfl).trans s114_10)))))) ?_; intro a124 u124 z124
        refine sp z124 rfl rfl (ex_ixa Try.underlying128 (Try.sizeOf133 _) ((u124.past 65 rfl).trans (u123.here _ rfl)) hrw112 (u124.here _ rfl) (by omega) (by omega)) ?_; intro a125 u125 z125
        refine sp z125 rfl rfl (ex_fieldAddr (u125.here _ rfl) (fa_133_0 _ _ _)) ?_; intro a126 u126 z126
        have HL_128 := (own_keep (own_keep (own_keep HL_115 t116) t120) t121)
        refine sp z126 rfl rfl (ex_load (u126.here _ rfl) (Try.isAgg3 _) (own_at HL_128 hrw112 lvs2 (at_some' (d := l0) (by rfl) (by omega) (by omega)) 0 rfl)) ?_; intro a127 u127 z127
        refine sp z127 rfl rfl (ex_move ((u127.past 11 rfl).trans ((u126.past 11 rfl).trans ((u125.past 11 rfl).trans ((u124.past 11 rfl).trans ((u123.past 11 rfl).trans ((u122.past 11 rfl).trans ((q121 11 rfl).trans e120.2.1)))))))) ?_; intro a129 u129 z129
        refine sp z129 rfl rfl (ex_move ((u129.past 12 rfl).trans ((u127.past 12 rfl).trans ((u126.past 12 rfl).trans ((u125.past 12 rfl).trans ((u124.past 12 rfl).trans ((u123.past 12 rfl).trans ((u122.past 12 rfl).trans ((q121 12 rfl).trans e120.2.2.1))))))))) ?_; intro a130 u130 z130
        have f103_132 := (ArenaAt.keep (ArenaAt.keep (ArenaAt.keep (ArenaAt.keep (ArenaAt.keep f103 t105) t110) t116) t120) t121)
        have RM := cube_step (lo := 0) (hi := r) hI hL (by omega) hi1 (by rw [y117]; rfl) (by rw [y117]; rfl)
        have RB := cube_bad (lo := 0) (hi := r) hI (by omega) hi1 (by rw [y117]; rfl) (by rw [y117]; rfl)
        refine sc z130 rfl rfl (exl_call Try.func102 rfl rfl (cons_ops ((u130.past 64 rfl).trans ((u129.past 64 rfl).trans ((u127.past 64 rfl).trans ((u126.past 64 rfl).trans ((u125.past 64 rfl).trans ((u124.past 64 rfl).trans ((u123.past 64 rfl).trans (u122.here _ rfl)))))))) (cons_ops ((u130.past 69 rfl).trans ((u129.past 69 rfl).trans (u127.here _ rfl))) (cons_ops ((u130.past 70 rfl).trans (u129.here _ rfl)) (cons_ops (u130.here _ rfl) nil_ops))))) (c_mk f103_132 _ _ _ (by omega) (by omega)) ?_
        rintro e131 w131 ⟨Fp131, he131, H131, m131⟩; refine ⟨_, he131, ?_⟩; intro a131 u131 z131
        have o133 := fun jQ hQ => Mut.out m131 (own_lt HL_128 hQ) (hout1 jQ hQ)
        have x134 := (Touch.trans (Touch.trans (Touch.trans (Touch.trans (Touch.trans x92 (Ext.touch t105)) (Ext.touch t110)) (Ext.touch t116)) (Ext.touch t120)) (Ext.touch t121))
        have i135 := Mut.inF m131 x134 hin
        refine sp z131 rfl rfl (ex_move (u131.here _ rfl)) ?_; intro a136 u136 z136
        refine sp z136 rfl rfl (ex_extract (u136.here _ rfl) rfl) ?_; intro a137 u137 z137
        refine sp z137 rfl rfl (ex_extract ((u137.past 63 rfl).trans (u136.here _ rfl)) rfl) ?_; intro a138 u138 z138
        refine sp z138 rfl rfl (ex_assign ((u138.past 73 rfl).trans (u137.here _ rfl))) ?_; intro a139 u139 z139
        refine sp z139 rfl rfl (ex_assign ((u139.past 74 rfl).trans (u138.here _ rfl))) ?_; intro a140 u140 z140
        have d141 := (u140.defs.trans (u139.defs.trans (u138.defs.trans (u137.defs.trans (u136.defs.trans (u131.defs.trans (u130.defs.trans (u129.defs.trans (u127.defs.trans (u126.defs.trans (u125.defs.trans (u124.defs.trans (u123.defs.trans (u122.defs.trans d121))))))))))))))
        refine seq_end ?_
        refine then_norm ?_
        have s142_13 : a140.eval (.tmp 13) = .int .i64 ((mkF A1 most ((at_ L l0 i).1, 0, r)).2.2) := (u140.here _ rfl)
        refine rgs mixed 82 [.eq (.int .i64 ((mkF A1 most ((at_ L l0 i).1, 0, r)).2.2)), .eq (.bool (decide (((mkF A1 most ((at_ L l0 i).1, 0, r)).2.2) ≠ 0)))] [[(13, none)], [(75, some 0)]] d141 z140 (by kernel_rfl) ⟨Ov rfl rfl fun _ _ T ⟨k13, _⟩ => ex_move (k13.trans s142_13), Ov rfl rfl fun _ _ T ⟨k75, _⟩ => ex_neq k75 rfl, trivial⟩ ?_
        intro a143 w143 d143 z143 t143 e143 q143
        by_cases c144 : ((mkF A1 most ((at_ L l0 i).1, 0, r)).2.2) ≠ 0
        · have y144 := decide_eq_true c144
          have s145_76 : a143.eval (.tmp 76) = .bool (decide (((mkF A1 most ((at_ L l0 i).1, 0, r)).2.2) ≠ 0)) := e143.2.1
          refine wp_cond_true (s145_76.trans (by rw [y144])) ?_
          have lenm := RM.wf.len; have roomm := RM.room
          refine wp_seq ?_
          refine seq_begin ?_
          refine sp z143 rfl rfl (ex_move ((q143 0 rfl).trans ((u140.past 0 rfl).trans ((u139.past 0 rfl).trans ((u138.past 0 rfl).trans ((u137.past 0 rfl).trans ((u136.past 0 rfl).trans ((u131.past 0 rfl).trans ((u130.past 0 rfl).trans ((u129.past 0 rfl).trans ((u127.past 0 rfl).trans ((u126.past 0 rfl).trans ((u125.past 0 rfl).trans ((u124.past 0 rfl).trans ((u123.past 0 rfl).trans ((u122.past 0 rfl).trans ((q121 0 rfl).trans ((q120 0 rfl).trans ((q116 0 rfl).trans ((q110 0 rfl).trans ((q105 0 rfl).trans s92_0))))))))))))))))))))) ?_; intro a146 u146 z146
          refine sp z146 rfl rfl (ex_move ((u146.past 8 rfl).trans ((q143 8 rfl).trans ((u140.past 8 rfl).trans ((u139.past 8 rfl).trans ((u138.past 8 rfl).trans ((u137.past 8 rfl).trans ((u136.past 8 rfl).trans ((u131.past 8 rfl).trans ((u130.past 8 rfl).trans ((u129.past 8 rfl).trans ((u127.past 8 rfl).trans ((u126.past 8 rfl).trans ((u125.past 8 rfl).trans ((u124.past 8 rfl).trans ((u123.past 8 rfl).trans ((u122.past 8 rfl).trans ((q121 8 rfl).trans ((q120 8 rfl).trans ((q116 8 rfl).trans ((q110 8 rfl).trans ((q105 8 rfl).trans s92_8)))))))))))))))))))))) ?_; intro a147 u147 z147
          have H131_149 := (ArenaAt.keep H131 t143)
          refine sc z147 rfl rfl (exl_call Try.func101 rfl rfl (cons_ops ((u147.past 77 rfl).trans (u146.here _ rfl)) (cons_ops (u147.here _ rfl) nil_ops))) (c_cut H131_149 (A.length : Int) (by omega) (by omega) RM.wf.nodup) ?_
          rintro e148 w148 ⟨he148, H148, m148⟩; refine ⟨_, he148, ?_⟩; intro a148 u148 z148
          have HL_150 := (own_keep (Mut.own m131 HL_128 hout1) t143)
          have o151 := fun jQ hQ => Mut.out m148 (own_lt HL_150 hQ) (o133 jQ hQ)
          have x152 := (Touch.trans (Touch.mut x134 m131 hin) (Ext.touch t143))
          have i153 := Mut.inF m148 x152 i135
          have d154 := (u148.defs.trans (u147.defs.trans (u146.defs.trans d143)))
          refine seq_end ?_
          refine then_norm ?_
          have s155_13 := ((u148.past 13 rfl).trans ((u147.past 13 rfl).trans ((u146.past 13 rfl).trans ((q143 13 rfl).trans s142_13))))
          refine rgs mixed 82 [.eq (.int .i64 ((mkF A1 most ((at_ L l0 i).1, 0, r)).2.2)), .eq (.int .i64 0), .eq (.int .i64 ((mkF A1 most ((at_ L l0 i).1, 0, r)).2.2))] [[(13, none)], [], [(80, some 0)]] d154 z148 (by kernel_rfl) ⟨Ov rfl rfl fun _ _ T ⟨k13, _⟩ => ex_move (k13.trans s155_13), Ov rfl rfl fun _ _ T _ => ex_assign rfl, Ov rfl rfl fun _ _ T ⟨k80, _⟩ => ex_assign k80, trivial⟩ ?_
          intro a156 w156 d156 z156 t156 e156 q156
          refine wp_ret ?_
          have s157_4 : a156.eval (.tmp 4) = .int .i64 0 := e156.2.1
          have s158_5 : a156.eval (.tmp 5) = .int .i64 ((mkF A1 most ((at_ L l0 i).1, 0, r)).2.2) := e156.2.2.1
          repeat (first | (with_reducible refine then_ret ?_) | (with_reducible refine block_ret ?_))
          refine rett (rs := [.tmp 4, .tmp 5]) (vs := [.int .i64 0, .int .i64 ((mkF A1 most ((at_ L l0 i).1, 0, r)).2.2)]) Try.results56 ⟨s157_4, ⟨s158_5, trivial⟩⟩ (by simp) d156 ?_
          have et := take_pre (hI.pre.trans RM.pre) hl2 (n := (A.length : Int)) rfl
          have H148_159 := (ArenaAt.keep H148 t156)
          have HH := H148_159
          rw [et] at HH
          have x160 := (Touch.trans (Touch.mut x152 m148 i153) (Ext.touch t156))
          have hc := RM.ok.elim (fun hQ => absurd hQ.1 c144) (fun hQ => hQ)
          exact ⟨_, _, _, _, rfl, HH, ⟨x160, i153⟩, ⟨hW, List.prefix_refl _, hm, .inr hc⟩, fun _ => ⟨rfl, rfl⟩, fun hn => by subst hn; simp at hi1; omega, (RB c144).symm⟩
        · have y144 := decide_eq_false c144
          have s161_76 : a143.eval (.tmp 76) = .bool (decide (((mkF A1 most ((at_ L l0 i).1, 0, r)).2.2) ≠ 0)) := e143.2.1
          refine wp_cond_false (s161_76.trans (by rw [y144])) ?_
          refine wp_skip ?_
          repeat (with_reducible refine block_norm ?_)
          refine hK108 _ _ ?_
          have s162_10 := ((q143 10 rfl).trans ((u140.past 10 rfl).trans ((u139.past 10 rfl).trans ((u138.past 10 rfl).trans ((u137.past 10 rfl).trans ((u136.past 10 rfl).trans ((u131.past 10 rfl).trans ((u130.past 10 rfl).trans ((u129.past 10 rfl).trans ((u127.past 10 rfl).trans ((u126.past 10 rfl).trans ((u125.past 10 rfl).trans ((u124.past 10 rfl).trans ((u123.past 10 rfl).trans ((u122.past 10 rfl).trans ((q121 10 rfl).trans ((q120 10 rfl).trans ((q116 10 rfl).trans s114_10))))))))))))))))))
          refine rg mixed 82 [.eq (.int .i64 i), .eq (.int .i64 (i - 1)), .eq (.int .i64 (i - 1))] [[(10, none)], [(54, some 0)], [(55, some 1)]] d143 z143 (by kernel_rfl) ⟨Ov rfl rfl fun _ _ T ⟨k10, _⟩ => ex_move (k10.trans s162_10), Ov rfl rfl fun _ _ T ⟨k54, _⟩ => ex_sub64 k54 rfl (by omega), Ov rfl rfl fun _ _ T ⟨k55, _⟩ => ex_assign k55, trivial⟩ ?_
          intro a163 w163 d163 z163 t163 e163 q163
          repeat (with_reducible refine block_norm ?_)
          have good := RM.ok.elim (fun hQ => hQ.2) (fun hQ => absurd hQ (by have := c144; omega))
          have s164_0 := ((q163 0 rfl).trans ((q143 0 rfl).trans ((u140.past 0 rfl).trans ((u139.past 0 rfl).trans ((u138.past 0 rfl).trans ((u137.past 0 rfl).trans ((u136.past 0 rfl).trans ((u131.past 0 rfl).trans ((u130.past 0 rfl).trans ((u129.past 0 rfl).trans ((u127.past 0 rfl).trans ((u126.past 0 rfl).trans ((u125.past 0 rfl).trans ((u124.past 0 rfl).trans ((u123.past 0 rfl).trans ((u122.past 0 rfl).trans ((q121 0 rfl).trans ((q120 0 rfl).trans ((q116 0 rfl).trans ((q110 0 rfl).trans ((q105 0 rfl).trans s92_0)))))))))))))))))))))
          have s165_1 := ((q163 1 rfl).trans ((q143 1 rfl).trans ((u140.past 1 rfl).trans ((u139.past 1 rfl).trans ((u138.past 1 rfl).trans ((u137.past 1 rfl).trans ((u136.past 1 rfl).trans ((u131.past 1 rfl).trans ((u130.past 1 rfl).trans ((u129.past 1 rfl).trans ((u127.past 1 rfl).trans ((u126.past 1 rfl).trans ((u125.past 1 rfl).trans ((u124.past 1 rfl).trans ((u123.past 1 rfl).trans ((u122.past 1 rfl).trans ((q121 1 rfl).trans ((q120 1 rfl).trans ((q116 1 rfl).trans s113_1)))))))))))))))))))
          have s166_8 := ((q163 8 rfl).trans ((q143 8 rfl).trans ((u140.past 8 rfl).trans ((u139.past 8 rfl).trans ((u138.past 8 rfl).trans ((u137.past 8 rfl).trans ((u136.past 8 rfl).trans ((u131.past 8 rfl).trans ((u130.past 8 rfl).trans ((u129.past 8 rfl).trans ((u127.past 8 rfl).trans ((u126.past 8 rfl).trans ((u125.past 8 rfl).trans ((u124.past 8 rfl).trans ((u123.past 8 rfl).trans ((u122.past 8 rfl).trans ((q121 8 rfl).trans ((q120 8 rfl).trans ((q116 8 rfl).trans ((q110 8 rfl).trans ((q105 8 rfl).trans s92_8)))))))))))))))))))))
          have s167_9 : a139.eval (.tmp 9) = .int .i64 ((mkF A1 most ((at_ L l0 i).1, 0, r)).2.1) := (u139.here _ rfl)
          have s168_9 := ((q163 9 rfl).trans ((q143 9 rfl).trans ((u140.past 9 rfl).trans s167_9)))
          have s169_10 : a163.eval (.tmp 10) = .int .i64 (i - 1) := e163.2.2.1
          have x170 := (Touch.trans (Touch.trans (Touch.mut x134 m131 hin) (Ext.touch t143)) (Ext.touch t163))
          have HL_171 := (own_keep (own_keep (Mut.own m131 HL_128 hout1) t143) t163)
          have H131_172 := (ArenaAt.keep (ArenaAt.keep H131 t143) t163)
          refine then_norm ?_
          refine ⟨_, ⟨i - 1, _, Fp131, (mkF A1 most ((at_ L l0 i).1, 0, r)).2.1, rfl, d163, z163, s164_0, s165_1, s166_8, s168_9, s169_10, x170, HL_171, H131_172, by omega, by omega, good, i135, o133⟩, ?_⟩; (show _ < _); rw [hmu92]; exact by omega
      · have c117 := y117
        have s173_61 : a116.eval (.tmp 61) = .bool ((at_ L l0 i).2) := e116.2.2.2.2.1
        refine wp_cond_false (s173_61.trans (by rw [y117])) ?_
        refine wp_skip ?_
        repeat (with_reducible refine block_norm ?_)
        refine hK111 _ _ ?_
        refine rgs mixed 82 [.eq (.int .i64 0)] [[]] d116 z116 (by kernel_rfl) ⟨Ov rfl rfl fun _ _ T _ => ex_assign rfl, trivial⟩ ?_
        intro a174 w174 d174 z174 t174 e174 q174
        refine wp_seq ?_
        refine seq_begin ?_
        refine sp z174 rfl rfl (ex_move ((q174 0 rfl).trans ((q116 0 rfl).trans ((q110 0 rfl).trans ((q105 0 rfl).trans s92_0))))) ?_; intro a175 u175 z175
        refine sp z175 rfl rfl (ex_move ((u175.past 1 rfl).trans ((q174 1 rfl).trans ((q116 1 rfl).trans s113_1)))) ?_; intro a176 u176 z176
        refine sp z176 rfl rfl (ex_move ((u176.past 10 rfl).trans ((u175.past 10 rfl).trans ((q174 10 rfl).trans ((q116 10 rfl).trans s114_10))))) ?_; intro a177 u177 z177
        refine sp z177 rfl rfl (ex_ixa Try.underlying128 (Try.sizeOf133 _) ((u177.past 65 rfl).trans (u176.here _ rfl)) hrw112 (u177.here _ rfl) (by omega) (by omega)) ?_; intro a178 u178 z178
        refine sp z178 rfl rfl (ex_fieldAddr (u178.here _ rfl) (fa_133_0 _ _ _)) ?_; intro a179 u179 z179
        have HL_181 := (own_keep (own_keep HL_115 t116) t174)
        refine sp z179 rfl rfl (ex_load (u179.here _ rfl) (Try.isAgg3 _) (own_at HL_181 hrw112 lvs2 (at_some' (d := l0) (by rfl) (by omega) (by omega)) 0 rfl)) ?_; intro a180 u180 z180
        refine sp z180 rfl rfl (ex_move ((u180.past 11 rfl).trans ((u179.past 11 rfl).trans ((u178.past 11 rfl).trans ((u177.past 11 rfl).trans ((u176.past 11 rfl).trans ((u175.past 11 rfl).trans ((q174 11 rfl).trans ((q116 11 rfl).trans e110.2.1))))))))) ?_; intro a182 u182 z182
        refine sp z182 rfl rfl (ex_move ((u182.past 12 rfl).trans ((u180.past 12 rfl).trans ((u179.past 12 rfl).trans ((u178.past 12 rfl).trans ((u177.past 12 rfl).trans ((u176.past 12 rfl).trans ((u175.past 12 rfl).trans ((q174 12 rfl).trans ((q116 12 rfl).trans e110.2.2.1)))))))))) ?_; intro a183 u183 z183
        have f103_185 := (ArenaAt.keep (ArenaAt.keep (ArenaAt.keep (ArenaAt.keep f103 t105) t110) t116) t174)
        have RM := cube_step (lo := r) (hi := 0) hI hL (by omega) hi1 (by rw [y117]; rfl) (by rw [y117]; rfl)
        have RB := cube_bad (lo := r) (hi := 0) hI (by omega) hi1 (by rw [y117]; rfl) (by rw [y117]; rfl)
        refine sc z183 rfl rfl (exl_call Try.func102 rfl rfl (cons_ops ((u183.past 64 rfl).trans ((u182.past 64 rfl).trans ((u180.past 64 rfl).trans ((u179.past 64 rfl).trans ((u178.past 64 rfl).trans ((u177.past 64 rfl).trans ((u176.past 64 rfl).trans (u175.here _ rfl)))))))) (cons_ops ((u183.past 69 rfl).trans ((u182.past 69 rfl).trans (u180.here _ rfl))) (cons_ops ((u183.past 70 rfl).trans (u182.here _ rfl)) (cons_ops (u183.here _ rfl) nil_ops))))) (c_mk f103_185 _ _ _ (by omega) (by omega)) ?_
        rintro e184 w184 ⟨Fp184, he184, H184, m184⟩; refine ⟨_, he184, ?_⟩; intro a184 u184 z184
        have o186 := fun jQ hQ => Mut.out m184 (own_lt HL_181 hQ) (hout1 jQ hQ)
        have x187 := (Touch.trans (Touch.trans (Touch.trans (Touch.trans x92 (Ext.touch t105)) (Ext.touch t110)) (Ext.touch t116)) (Ext.touch t174))
        have i188 := Mut.inF m184 x187 hin
        refine sp z184 rfl rfl (ex_move (u184.here _ rfl)) ?_; intro a189 u189 z189
        refine sp z189 rfl rfl (ex_extract (u189.here _ rfl) rfl) ?_; intro a190 u190 z190
        refine sp z190 rfl rfl (ex_extract ((u190.past 63 rfl).trans (u189.here _ rfl)) rfl) ?_; intro a191 u191 z191
        refine sp z191 rfl rfl (ex_assign ((u191.past 73 rfl).trans (u190.here _ rfl))) ?_; intro a192 u192 z192
        refine sp z192 rfl rfl (ex_assign ((u192.past 74 rfl).trans (u191.here _ rfl))) ?_; intro a193 u193 z193
        have d194 := (u193.defs.trans (u192.defs.trans (u191.defs.trans (u190.defs.trans (u189.defs.trans (u184.defs.trans (u183.defs.trans (u182.defs.trans (u180.defs.trans (u179.defs.trans (u178.defs.trans (u177.defs.trans (u176.defs.trans (u175.defs.trans d174))))))))))))))
        refine seq_end ?_
        refine then_norm ?_
        have s195_13 : a193.eval (.tmp 13) = .int .i64 ((mkF A1 most ((at_ L l0 i).1, r, 0)).2.2) := (u193.here _ rfl)
        refine rgs mixed 82 [.eq (.int .i64 ((mkF A1 most ((at_ L l0 i).1, r, 0)).2.2)), .eq (.bool (decide (((mkF A1 most ((at_ L l0 i).1, r, 0)).2.2) ≠ 0)))] [[(13, none)], [(75, some 0)]] d194 z193 (by kernel_rfl) ⟨Ov rfl rfl fun _ _ T ⟨k13, _⟩ => ex_move (k13.trans s195_13), Ov rfl rfl fun _ _ T ⟨k75, _⟩ => ex_neq k75 rfl, trivial⟩ ?_
        intro a196 w196 d196 z196 t196 e196 q196
        by_cases c197 : ((mkF A1 most ((at_ L l0 i).1, r, 0)).2.2) ≠ 0
        · have y197 := decide_eq_true c197
          have s198_76 : a196.eval (.tmp 76) = .bool (decide (((mkF A1 most ((at_ L l0 i).1, r, 0)).2.2) ≠ 0)) := e196.2.1
          refine wp_cond_true (s198_76.trans (by rw [y197])) ?_
          have lenm := RM.wf.len; have roomm := RM.room
          refine wp_seq ?_
          refine seq_begin ?_
          refine sp z196 rfl rfl (ex_move ((q196 0 rfl).trans ((u193.past 0 rfl).trans ((u192.past 0 rfl).trans ((u191.past 0 rfl).trans ((u190.past 0 rfl).trans ((u189.past 0 rfl).trans ((u184.past 0 rfl).trans ((u183.past 0 rfl).trans ((u182.past 0 rfl).trans ((u180.past 0 rfl).trans ((u179.past 0 rfl).trans ((u178.past 0 rfl).trans ((u177.past 0 rfl).trans ((u176.past 0 rfl).trans ((u175.past 0 rfl).trans ((q174 0 rfl).trans ((q116 0 rfl).trans ((q110 0 rfl).trans ((q105 0 rfl).trans s92_0)))))))))))))))))))) ?_; intro a199 u199 z199
          refine sp z199 rfl rfl (ex_move ((u199.past 8 rfl).trans ((q196 8 rfl).trans ((u193.past 8 rfl).trans ((u192.past 8 rfl).trans ((u191.past 8 rfl).trans ((u190.past 8 rfl).trans ((u189.past 8 rfl).trans ((u184.past 8 rfl).trans ((u183.past 8 rfl).trans ((u182.past 8 rfl).trans ((u180.past 8 rfl).trans ((u179.past 8 rfl).trans ((u178.past 8 rfl).trans ((u177.past 8 rfl).trans ((u176.past 8 rfl).trans ((u175.past 8 rfl).trans ((q174 8 rfl).trans ((q116 8 rfl).trans ((q110 8 rfl).trans ((q105 8 rfl).trans s92_8))))))))))))))))))))) ?_; intro a200 u200 z200
          have H184_202 := (ArenaAt.keep H184 t196)
          refine sc z200 rfl rfl (exl_call Try.func101 rfl rfl (cons_ops ((u200.past 77 rfl).trans (u199.here _ rfl)) (cons_ops (u200.here _ rfl) nil_ops))) (c_cut H184_202 (A.length : Int) (by omega) (by omega) RM.wf.nodup) ?_
          rintro e201 w201 ⟨he201, H201, m201⟩; refine ⟨_, he201, ?_⟩; intro a201 u201 z201
          have HL_203 := (own_keep (Mut.own m184 HL_181 hout1) t196)
          have o204 := fun jQ hQ => Mut.out m201 (own_lt HL_203 hQ) (o186 jQ hQ)
          have x205 := (Touch.trans (Touch.mut x187 m184 hin) (Ext.touch t196))
          have i206 := Mut.inF m201 x205 i188
          have d207 := (u201.defs.trans (u200.defs.trans (u199.defs.trans d196)))
          refine seq_end ?_
          refine then_norm ?_
          have s208_13 := ((u201.past 13 rfl).trans ((u200.past 13 rfl).trans ((u199.past 13 rfl).trans ((q196 13 rfl).trans s195_13))))
          refine rgs mixed 82 [.eq (.int .i64 ((mkF A1 most ((at_ L l0 i).1, r, 0)).2.2)), .eq (.int .i64 0), .eq (.int .i64 ((mkF A1 most ((at_ L l0 i).1, r, 0)).2.2))] [[(13, none)], [], [(80, some 0)]] d207 z201 (by kernel_rfl) ⟨Ov rfl rfl fun _ _ T ⟨k13, _⟩ => ex_move (k13.trans s208_13), Ov rfl rfl fun _ _ T _ => ex_assign rfl, Ov rfl rfl fun _ _ T ⟨k80, _⟩ => ex_assign k80, trivial⟩ ?_
          intro a209 w209 d209 z209 t209 e209 q209
          refine wp_ret ?_
          have s210_4 : a209.eval (.tmp 4) = .int .i64 0 := e209.2.1
          have s211_5 : a209.eval (.tmp 5) = .int .i64 ((mkF A1 most ((at_ L l0 i).1, r, 0)).2.2) := e209.2.2.1
          repeat (first | (with_reducible refine then_ret ?_) | (with_reducible refine block_ret ?_))
          refine rett (rs := [.tmp 4, .tmp 5]) (vs := [.int .i64 0, .int .i64 ((mkF A1 most ((at_ L l0 i).1, r, 0)).2.2)]) Try.results56 ⟨s210_4, ⟨s211_5, trivial⟩⟩ (by simp) d209 ?_
          have et := take_pre (hI.pre.trans RM.pre) hl2 (n := (A.length : Int)) rfl
          have H201_212 := (ArenaAt.keep H201 t209)
          have HH := H201_212
          rw [et] at HH
          have x213 := (Touch.trans (Touch.mut x205 m201 i206) (Ext.touch t209))
          have hc := RM.ok.elim (fun hQ => absurd hQ.1 c197) (fun hQ => hQ)
          exact ⟨_, _, _, _, rfl, HH, ⟨x213, i206⟩, ⟨hW, List.prefix_refl _, hm, .inr hc⟩, fun _ => ⟨rfl, rfl⟩, fun hn => by subst hn; simp at hi1; omega, (RB c197).symm⟩
        · have y197 := decide_eq_false c197
          have s214_76 : a196.eval (.tmp 76) = .bool (decide (((mkF A1 most ((at_ L l0 i).1, r, 0)).2.2) ≠ 0)) := e196.2.1
          refine wp_cond_false (s214_76.trans (by rw [y197])) ?_
          refine wp_skip ?_
          repeat (with_reducible refine block_norm ?_)
          refine hK108 _ _ ?_
          have s215_10 := ((q196 10 rfl).trans ((u193.past 10 rfl).trans ((u192.past 10 rfl).trans ((u191.past 10 rfl).trans ((u190.past 10 rfl).trans ((u189.past 10 rfl).trans ((u184.past 10 rfl).trans ((u183.past 10 rfl).trans ((u182.past 10 rfl).trans ((u180.past 10 rfl).trans ((u179.past 10 rfl).trans ((u178.past 10 rfl).trans ((u177.past 10 rfl).trans ((u176.past 10 rfl).trans ((u175.past 10 rfl).trans ((q174 10 rfl).trans ((q116 10 rfl).trans s114_10)))))))))))))))))
          refine rg mixed 82 [.eq (.int .i64 i), .eq (.int .i64 (i - 1)), .eq (.int .i64 (i - 1))] [[(10, none)], [(54, some 0)], [(55, some 1)]] d196 z196 (by kernel_rfl) ⟨Ov rfl rfl fun _ _ T ⟨k10, _⟩ => ex_move (k10.trans s215_10), Ov rfl rfl fun _ _ T ⟨k54, _⟩ => ex_sub64 k54 rfl (by omega), Ov rfl rfl fun _ _ T ⟨k55, _⟩ => ex_assign k55, trivial⟩ ?_
          intro a216 w216 d216 z216 t216 e216 q216
          repeat (with_reducible refine block_norm ?_)
          have good := RM.ok.elim (fun hQ => hQ.2) (fun hQ => absurd hQ (by have := c197; omega))
          have s217_0 := ((q216 0 rfl).trans ((q196 0 rfl).trans ((u193.past 0 rfl).trans ((u192.past 0 rfl).trans ((u191.past 0 rfl).trans ((u190.past 0 rfl).trans ((u189.past 0 rfl).trans ((u184.past 0 rfl).trans ((u183.past 0 rfl).trans ((u182.past 0 rfl).trans ((u180.past 0 rfl).trans ((u179.past 0 rfl).trans ((u178.past 0 rfl).trans ((u177.past 0 rfl).trans ((u176.past 0 rfl).trans ((u175.past 0 rfl).trans ((q174 0 rfl).trans ((q116 0 rfl).trans ((q110 0 rfl).trans ((q105 0 rfl).trans s92_0))))))))))))))))))))
          have s218_1 := ((q216 1 rfl).trans ((q196 1 rfl).trans ((u193.past 1 rfl).trans ((u192.past 1 rfl).trans ((u191.past 1 rfl).trans ((u190.past 1 rfl).trans ((u189.past 1 rfl).trans ((u184.past 1 rfl).trans ((u183.past 1 rfl).trans ((u182.past 1 rfl).trans ((u180.past 1 rfl).trans ((u179.past 1 rfl).trans ((u178.past 1 rfl).trans ((u177.past 1 rfl).trans ((u176.past 1 rfl).trans ((u175.past 1 rfl).trans ((q174 1 rfl).trans ((q116 1 rfl).trans s113_1))))))))))))))))))
          have s219_8 := ((q216 8 rfl).trans ((q196 8 rfl).trans ((u193.past 8 rfl).trans ((u192.past 8 rfl).trans ((u191.past 8 rfl).trans ((u190.past 8 rfl).trans ((u189.past 8 rfl).trans ((u184.past 8 rfl).trans ((u183.past 8 rfl).trans ((u182.past 8 rfl).trans ((u180.past 8 rfl).trans ((u179.past 8 rfl).trans ((u178.past 8 rfl).trans ((u177.past 8 rfl).trans ((u176.past 8 rfl).trans ((u175.past 8 rfl).trans ((q174 8 rfl).trans ((q116 8 rfl).trans ((q110 8 rfl).trans ((q105 8 rfl).trans s92_8))))))))))))))))))))
          have s220_9 : a192.eval (.tmp 9) = .int .i64 ((mkF A1 most ((at_ L l0 i).1, r, 0)).2.1) := (u192.here _ rfl)
          have s221_9 := ((q216 9 rfl).trans ((q196 9 rfl).trans ((u193.past 9 rfl).trans s220_9)))
          have s222_10 : a216.eval (.tmp 10) = .int .i64 (i - 1) := e216.2.2.1
          have x223 := (Touch.trans (Touch.trans (Touch.mut x187 m184 hin) (Ext.touch t196)) (Ext.touch t216))
          have HL_224 := (own_keep (own_keep (Mut.own m184 HL_181 hout1) t196) t216)
          have H184_225 := (ArenaAt.keep (ArenaAt.keep H184 t196) t216)
          refine then_norm ?_
          refine ⟨_, ⟨i - 1, _, Fp184, (mkF A1 most ((at_ L l0 i).1, r, 0)).2.1, rfl, d216, z216, s217_0, s218_1, s219_8, s221_9, s222_10, x223, HL_224, H184_225, by omega, by omega, good, i188, o186⟩, ?_⟩; (show _ < _); rw [hmu92]; exact by omega
    · have y106 := decide_eq_false c106
      have s226_53 : a105.eval (.tmp 53) = .bool (decide (0 ≤ i)) := e105.2.1
      refine wp_cond_false (s226_53.trans (by rw [y106])) ?_
      refine wp_exit ?_
      repeat (first | (with_reducible refine then_exit ?_) | (with_reducible refine block_here ?_) | (with_reducible refine block_past rfl ?_))
      refine hK88 _ _ ?_
      have s227_9 := ((q105 9 rfl).trans s92_9)
      refine rgs mixed 82 [.eq (.int .i64 r), .eq (.int .i64 r), .eq (.int .i64 0)] [[(9, none)], [(81, some 0)], []] d105 z105 (by kernel_rfl) ⟨Ov rfl rfl fun _ _ T ⟨k9, _⟩ => ex_move (k9.trans s227_9), Ov rfl rfl fun _ _ T ⟨k81, _⟩ => ex_assign k81, Ov rfl rfl fun _ _ T _ => ex_assign rfl, trivial⟩ ?_
      intro a228 w228 d228 z228 t228 e228 q228
      refine wp_ret ?_
      have s229_4 : a228.eval (.tmp 4) = .int .i64 r := e228.2.1
      have s230_5 : a228.eval (.tmp 5) = .int .i64 0 := e228.2.2.1
      repeat (first | (with_reducible refine then_ret ?_) | (with_reducible refine block_ret ?_))
      refine rett (rs := [.tmp 4, .tmp 5]) (vs := [.int .i64 r, .int .i64 0]) Try.results56 ⟨s229_4, ⟨s230_5, trivial⟩⟩ (by simp) d228 ?_
      have hi : i = -1 := by omega
      subst hi
      have f103_231 := (ArenaAt.keep (ArenaAt.keep f103 t105) t228)
      have x232 := (Touch.trans (Touch.trans x92 (Ext.touch t105)) (Ext.touch t228))
      exact ⟨_, _, _, _, rfl, f103_231, ⟨x232, hin⟩, ⟨hI.wf, hI.pre, hI.room, .inl ⟨rfl, hI.ok, fun v => by rw [hI.den v]; rfl⟩⟩, fun hQ => absurd rfl hQ, fun hn => ⟨rfl, (hI.nil hn).1⟩, by have := hI.fn; simpa using this.symm⟩


def bvs (x : I2) : List Value := [.int .u16 x.1, .int .i64 x.2]
theorem bvs2 : ∀ x, (bvs x).length = 2 := fun _ => rfl

set_option maxRecDepth 100000 in
set_option maxHeartbeats 4000000 in
theorem c_Blocks {w : World} (rl rh : Int) (hl : 0 ≤ rl) (hh : rh ≤ 65535) (hlh : rl ≤ rh) : Calls Try.prog 103 #[.agg #[.int .u16 rl, .int .u16 rh]] w fun e w' => ∃ Q L cq, e = .returned (.slice Q (L.length : Nat) cq) ∧ w'.ownsRow 0 191 2 (.slice Q L.length cq) L.length (flat bvs L) ∧ Ext w w' ∧ (∀ j, (Value.slice Q L.length cq).ownBlock = some j → w.heap.size ≤ j) ∧ Blks L rl (rh + 1) := by
  refine enter 52 Try.ntmps103 Try.func103 rfl (Nat.le_of_ble_eq_true rfl) fun a0 d0 z0 hargs => ?_
  have s0_0 : a0.eval (.tmp 0) = .agg #[.int .u16 rl, .int .u16 rh] := hargs 0 _ rfl
  have x0 := Touch.refl NoF w
  refine wp_seq ?_
  refine seq_begin ?_
  refine sbox z0 rfl s0_0 ?_; intro b1 w1 a1 t1 g1 hb1 u1 z1
  have yb1_2 := Nat.le_trans (Touch.size x0) g1
  refine sp z1 rfl rfl (ex_assign rfl) ?_; intro a3 u3 z3
  have d4 := (u3.defs.trans (u1.defs.trans d0))
  refine seq_end ?_
  refine then_norm ?_
  refine rgs mixed 52 [.eq (.slice none 0 0)] [[]] d4 z3 (by kernel_rfl) ⟨Ov rfl rfl fun _ _ T _ => ex_assign rfl, trivial⟩ ?_
  intro a5 w5 d5 z5 t5 e5 q5
  have s6_1 : a1.eval (.tmp 1) = .pointer (some ⟨b1, 0, none⟩) := (u1.here _ rfl)
  have s7_1 := ((q5 1 rfl).trans ((u3.past 1 rfl).trans s6_1))
  have hb1_8 := (Ext.keep t5 hb1)
  refine rgs mixed 52 [.eq (.pointer (some ⟨b1, 0, none⟩)), .eq (.int .u16 rl), .eq (.int .i64 rl), .eq (.pointer (some ⟨b1, 1, none⟩)), .eq (.int .u16 rh), .eq (.int .i64 rh), .eq (.int .i64 rl), .eq (.int .i64 rh)] [[(1, none)], [(9, some 0)], [(10, some 1)], [(1, none)], [(12, some 3)], [(13, some 4)], [(11, some 2)], [(14, some 5)]] d5 z5 (by kernel_rfl) ⟨Ov rfl rfl fun _ _ T ⟨k1, _⟩ => ex_fieldAddr (k1.trans s7_1) (fa_27_0 _ _ _),
    Ov rfl rfl fun _ _ T ⟨k9, _⟩ => ex_load k9 (Try.isAgg25 _) (cell_of (Ext.keep T.ext hb1_8) rfl),
    Ov rfl rfl fun _ _ T ⟨k10, _⟩ => ex_convert k10 (cvn_25_3 (by omega)),
    Ov rfl rfl fun _ _ T ⟨k1, _⟩ => ex_fieldAddr (k1.trans s7_1) (fa_27_1 _ _ _),
    Ov rfl rfl fun _ _ T ⟨k12, _⟩ => ex_load k12 (Try.isAgg25 _) (cell_of (Ext.keep T.ext hb1_8) rfl),
    Ov rfl rfl fun _ _ T ⟨k13, _⟩ => ex_convert k13 (cvn_25_3 (by omega)),
    Ov rfl rfl fun _ _ T ⟨k11, _⟩ => ex_assign k11,
    Ov rfl rfl fun _ _ T ⟨k14, _⟩ => ex_assign k14,
    trivial⟩ ?_
  intro a9 w9 d9 z9 t9 e9 q9
  refine wp_seq_k fun K10 hK10 => ?_
  refine wp_block ?_
  have s12_2 : a3.eval (.tmp 2) = .slice none 0 0 := (u3.here _ rfl)
  have s13_2 := ((q9 2 rfl).trans ((q5 2 rfl).trans s12_2))
  have s14_3 : a5.eval (.tmp 3) = .slice none 0 0 := e5.1
  have s15_3 := ((q9 3 rfl).trans s14_3)
  have s16_4 : a9.eval (.tmp 4) = .int .i64 rl := e9.2.2.2.2.2.2.1
  have s17_5 : a9.eval (.tmp 5) = .int .i64 rh := e9.2.2.2.2.2.2.2.1
  have x18 := (Touch.trans (Touch.trans (Touch.trans x0 (Ext.touch t1)) (Ext.touch t5)) (Ext.touch t9))
  refine wp_loopg (σ := Nat) (fun nQ aQ wQ => ∃ L : List I2, ∃ Q : Option Addr, ∃ cq : Nat, ∃ lo : Int, nQ = ((rh + 1 - lo).toNat) ∧
    aQ.defers = [] ∧
    aQ.tmps.size = 52 ∧
    aQ.eval (.tmp 2) = .slice none 0 0 ∧
    aQ.eval (.tmp 3) = .slice Q L.length cq ∧
    aQ.eval (.tmp 4) = .int .i64 lo ∧
    aQ.eval (.tmp 5) = .int .i64 rh ∧
    Touch (NoF) w wQ ∧
    wQ.ownsRow 0 191 2 (.slice Q L.length cq) L.length (flat bvs L) ∧
    (Blks L rl lo) ∧
    (rl ≤ lo ∧ lo ≤ rh + 1) ∧
    ((L.length : Int) ≤ lo) ∧
    (∀ j, (Value.slice Q L.length cq).ownBlock = some j → w.heap.size ≤ j)) (fun nQ => nQ) _ ⟨[], none, 0, rl, rfl, d9, z9, s13_2, (s15_3.trans (by first | rfl | (congr 1; omega) | (simp; omega) | simp)), (s16_4.trans (by first | rfl | (congr 1; omega) | (simp; omega) | simp)), s17_5, x18, (World.ownsRow_nil _ 0 191 2), blks_nil rl, ⟨Int.le_refl _, by omega⟩, by simp; omega, by simp [Value.ownBlock]⟩ ?_
  rintro nQ11 a11 w11 ⟨L, Q, cq, lo, hmu11, d11, z11, s11_2, s11_3, s11_4, s11_5, x11, f19, hB, hlo, hLl, hbase⟩
  refine wp_seq_k fun K20 hK20 => ?_
  refine rgs mixed 52 [.eq (.int .i64 lo), .eq (.int .i64 rh), .eq (.bool (decide (lo ≤ rh)))] [[(4, none)], [(5, none)], [(15, some 0), (16, some 1)]] d11 z11 (by kernel_rfl) ⟨Ov rfl rfl fun _ _ T ⟨k4, _⟩ => ex_move (k4.trans s11_4), Ov rfl rfl fun _ _ T ⟨k5, _⟩ => ex_move (k5.trans s11_5), Ov rfl rfl fun _ _ T ⟨k15, k16, _⟩ => ex_leq k15 k16, trivial⟩ ?_
  intro a21 w21 d21 z21 t21 e21 q21
  by_cases c22 : lo ≤ rh
  · have y22 := decide_eq_true c22
    have s23_17 : a21.eval (.tmp 17) = .bool (decide (lo ≤ rh)) := e21.2.2.1
    refine wp_cond_true (s23_17.trans (by rw [y22])) ?_
    refine wp_skip ?_
    repeat (with_reducible refine block_norm ?_)
    refine hK20 _ _ ?_
    refine wp_block ?_
    refine rgs mixed 52 [.eq (.int .i64 1)] [[]] d21 z21 (by kernel_rfl) ⟨Ov rfl rfl fun _ _ T _ => ex_assign rfl, trivial⟩ ?_
    intro a24 w24 d24 z24 t24 e24 q24
    refine wp_seq_k fun K25 hK25 => ?_
    refine wp_block ?_
    have s27_2 := ((q24 2 rfl).trans ((q21 2 rfl).trans s11_2))
    have s28_3 := ((q24 3 rfl).trans ((q21 3 rfl).trans s11_3))
    have s29_4 := ((q24 4 rfl).trans ((q21 4 rfl).trans s11_4))
    have s30_5 := ((q24 5 rfl).trans ((q21 5 rfl).trans s11_5))
    have s31_6 : a24.eval (.tmp 6) = .int .i64 1 := e24.1
    have s32_15 : a21.eval (.tmp 15) = .int .i64 lo := e21.1
    have s33_15 := ((q24 15 rfl).trans s32_15)
    have s34_16 : a21.eval (.tmp 16) = .int .i64 rh := e21.2.1
    have s35_16 := ((q24 16 rfl).trans s34_16)
    have s36_17 := ((q24 17 rfl).trans s23_17)
    have x37 := (Touch.trans (Touch.trans x11 (Ext.touch t21)) (Ext.touch t24))
    have f19_38 := (own_keep (own_keep f19 t21) t24)
    refine wp_loopg (σ := Nat) (fun nQ aQ wQ => ∃ z : Int, ∃ k : Nat, nQ = (17 - k) ∧
      aQ.defers = [] ∧
      aQ.tmps.size = 52 ∧
      aQ.eval (.tmp 2) = .slice none 0 0 ∧
      aQ.eval (.tmp 3) = .slice Q L.length cq ∧
      aQ.eval (.tmp 4) = .int .i64 lo ∧
      aQ.eval (.tmp 5) = .int .i64 rh ∧
      aQ.eval (.tmp 6) = .int .i64 z ∧
      aQ.eval (.tmp 15) = .int .i64 lo ∧
      aQ.eval (.tmp 16) = .int .i64 rh ∧
      aQ.eval (.tmp 17) = .bool (decide (lo ≤ rh)) ∧
      Touch (NoF) w wQ ∧
      wQ.ownsRow 0 191 2 (.slice Q L.length cq) (L.length) (flat bvs L) ∧
      (z = 2 ^ k) ∧
      (1 ≤ z) ∧
      (lo % z = 0) ∧
      (lo + z - 1 ≤ rh) ∧
      (lo ≤ rh)) (fun nQ => nQ) _ ⟨1, 0, rfl, d24, z24, s27_2, s28_3, s29_4, s30_5, (s31_6.trans (by first | rfl | (congr 1; omega) | (simp; omega) | simp)), s33_15, s35_16, s36_17, x37, f19_38, by rfl, by omega, Int.emod_one _, by omega, by omega⟩ ?_
    rintro nQ26 a26 w26 ⟨z, k, hmu26, d26, z26, s26_2, s26_3, s26_4, s26_5, s26_6, s26_15, s26_16, s26_17, x26, f19_39, hz, hz1, hzm, hz2, hlo2⟩
    have hk16 : k ≤ 16 := pow_le16 hz (by omega)
    refine wp_seq_k fun K40 hK40 => ?_
    refine rgs mixed 52 [.eq (.int .i64 lo), .eq (.int .i64 z), .eq (.int .i64 (2 * z)), .eq (.int .i64 (lo % (2 * z))), .eq (.bool (decide ((lo % (2 * z)) = 0))), .eq (.bool (decide ((lo % (2 * z)) = 0))), .eq (if (decide ((lo % (2 * z)) = 0)) = true then .int .i64 lo else undef), .eq (if (decide ((lo % (2 * z)) = 0)) = true then .int .i64 z else undef), .eq (if (decide ((lo % (2 * z)) = 0)) = true then .int .i64 (2 * z) else undef), .eq (if (decide ((lo % (2 * z)) = 0)) = true then .int .i64 (lo + (2 * z)) else undef), .eq (if (decide ((lo % (2 * z)) = 0)) = true then .int .i64 ((lo + (2 * z)) - 1) else undef), .eq (if (decide ((lo % (2 * z)) = 0)) = true then .int .i64 rh else undef), .eq (if (decide ((lo % (2 * z)) = 0)) = true then .bool (decide (((lo + (2 * z)) - 1) ≤ rh)) else undef), .eq (.bool ((decide ((lo % (2 * z)) = 0)) && (decide (((lo + (2 * z)) - 1) ≤ rh))))] [[(4, none)], [(6, none)], [(19, some 1)], [(18, some 0), (20, some 2)], [(21, some 3)], [(22, some 4)], [(4, none), (23, some 5)], [(6, none), (23, some 5)], [(25, some 7), (23, some 5)], [(24, some 6), (26, some 8), (23, some 5)], [(27, some 9), (23, some 5)], [(5, none), (23, some 5)], [(28, some 10), (29, some 11), (23, some 5)], [(23, some 5), (30, some 12)]] d26 z26 (by kernel_rfl) ⟨Ov rfl rfl fun _ _ T ⟨k4, _⟩ => ex_move (k4.trans s26_4),
      Ov rfl rfl fun _ _ T ⟨k6, _⟩ => ex_move (k6.trans s26_6),
      Ov rfl rfl fun _ _ T ⟨k19, _⟩ => ex_mul64 rfl k19 (by omega),
      Ov rfl rfl fun _ _ T ⟨k18, k20, _⟩ => (ex_rem k18 k20 (by omega)).trans (by rw [Int.tmod_eq_emod_of_nonneg (by omega)]),
      Ov rfl rfl fun _ _ T ⟨k21, _⟩ => ex_eql k21 rfl,
      Ov rfl rfl fun _ _ T ⟨k22, _⟩ => ex_move k22,
      Og rfl rfl rfl fun _ _ T ⟨k4, k23, _⟩ => ⟨k23, fun hcQ => ex_move (k4.trans s26_4)⟩,
      Og rfl rfl rfl fun _ _ T ⟨k6, k23, _⟩ => ⟨k23, fun hcQ => ex_move (k6.trans s26_6)⟩,
      Og rfl rfl rfl fun _ _ T ⟨k25, k23, _⟩ => ⟨k23, fun hcQ => by have hdQ := hcQ; (try simp only [Bool.and_eq_true, Bool.or_eq_false_iff, Bool.not_eq_true', Bool.not_eq_false', beq_iff_eq, decide_eq_true_eq, decide_eq_false_iff_not] at hdQ); exact ex_mul64 rfl (k25.trans (if_pos hcQ)) (by omega)⟩,
      Og rfl rfl rfl fun _ _ T ⟨k24, k26, k23, _⟩ => ⟨k23, fun hcQ => by have hdQ := hcQ; (try simp only [Bool.and_eq_true, Bool.or_eq_false_iff, Bool.not_eq_true', Bool.not_eq_false', beq_iff_eq, decide_eq_true_eq, decide_eq_false_iff_not] at hdQ); exact ex_add64 (k24.trans (if_pos hcQ)) (k26.trans (if_pos hcQ)) (by omega)⟩,
      Og rfl rfl rfl fun _ _ T ⟨k27, k23, _⟩ => ⟨k23, fun hcQ => by have hdQ := hcQ; (try simp only [Bool.and_eq_true, Bool.or_eq_false_iff, Bool.not_eq_true', Bool.not_eq_false', beq_iff_eq, decide_eq_true_eq, decide_eq_false_iff_not] at hdQ); exact ex_sub64 (k27.trans (if_pos hcQ)) rfl (by omega)⟩,
      Og rfl rfl rfl fun _ _ T ⟨k5, k23, _⟩ => ⟨k23, fun hcQ => ex_move (k5.trans s26_5)⟩,
      Og rfl rfl rfl fun _ _ T ⟨k28, k29, k23, _⟩ => ⟨k23, fun hcQ => ex_leq (k28.trans (if_pos hcQ)) (k29.trans (if_pos hcQ))⟩,
      Ov rfl rfl fun _ _ T ⟨k23, k30, _⟩ => ex_pick_and k23 k30 rfl,
      trivial⟩ ?_
    intro a41 w41 d41 z41 t41 e41 q41
    rcases Bool.eq_false_or_eq_true ((decide ((lo % (2 * z)) = 0)) && (decide (((lo + (2 * z)) - 1) ≤ rh))) with y42 | y42
    · have c42 := y42; try simp only [Bool.and_eq_true, Bool.or_eq_true, Bool.and_eq_false_iff, Bool.or_eq_false_iff, Bool.not_eq_true', Bool.not_eq_false', decide_eq_true_eq, decide_eq_false_iff_not] at c42
      have s43_31 : a41.eval (.tmp 31) = .bool ((decide ((lo % (2 * z)) = 0)) && (decide (((lo + (2 * z)) - 1) ≤ rh))) := e41.2.2.2.2.2.2.2.2.2.2.2.2.2.1
      refine wp_cond_true (s43_31.trans (by rw [y42])) ?_
      refine wp_skip ?_
      repeat (with_reducible refine block_norm ?_)
      refine hK40 _ _ ?_
      refine wp_block ?_
      have s44_6 := ((q41 6 rfl).trans s26_6)
      refine rg mixed 52 [.eq (.int .i64 z), .eq (.int .i64 (z * 2)), .eq (.int .i64 (z * 2))] [[(6, none)], [(32, some 0)], [(33, some 1)]] d41 z41 (by kernel_rfl) ⟨Ov rfl rfl fun _ _ T ⟨k6, _⟩ => ex_move (k6.trans s44_6), Ov rfl rfl fun _ _ T ⟨k32, _⟩ => ex_mul64 k32 rfl (by omega), Ov rfl rfl fun _ _ T ⟨k33, _⟩ => ex_assign k33, trivial⟩ ?_
      intro a45 w45 d45 z45 t45 e45 q45
      repeat (with_reducible refine block_norm ?_)
      have s46_2 := ((q45 2 rfl).trans ((q41 2 rfl).trans s26_2))
      have s47_3 := ((q45 3 rfl).trans ((q41 3 rfl).trans s26_3))
      have s48_4 := ((q45 4 rfl).trans ((q41 4 rfl).trans s26_4))
      have s49_5 := ((q45 5 rfl).trans ((q41 5 rfl).trans s26_5))
      have s50_6 : a45.eval (.tmp 6) = .int .i64 (z * 2) := e45.2.2.1
      have s51_15 := ((q45 15 rfl).trans ((q41 15 rfl).trans s26_15))
      have s52_16 := ((q45 16 rfl).trans ((q41 16 rfl).trans s26_16))
      have s53_17 := ((q45 17 rfl).trans ((q41 17 rfl).trans s26_17))
      have x54 := (Touch.trans (Touch.trans x26 (Ext.touch t41)) (Ext.touch t45))
      have f19_55 := (own_keep (own_keep f19_39 t41) t45)
      refine then_norm ?_
      refine ⟨_, ⟨z * 2, k + 1, rfl, d45, z45, s46_2, s47_3, s48_4, s49_5, s50_6, s51_15, s52_16, s53_17, x54, f19_55, (by rw [hz, Int.pow_succ]), by omega, (by rw [Int.mul_comm]; omega), by omega, by omega⟩, ?_⟩; (show _ < _); rw [hmu26]; exact by omega
    · have c42 := y42; try simp only [Bool.and_eq_true, Bool.or_eq_true, Bool.and_eq_false_iff, Bool.or_eq_false_iff, Bool.not_eq_true', Bool.not_eq_false', decide_eq_true_eq, decide_eq_false_iff_not] at c42
      have s56_31 : a41.eval (.tmp 31) = .bool ((decide ((lo % (2 * z)) = 0)) && (decide (((lo + (2 * z)) - 1) ≤ rh))) := e41.2.2.2.2.2.2.2.2.2.2.2.2.2.1
      refine wp_cond_false (s56_31.trans (by rw [y42])) ?_
      refine wp_exit ?_
      repeat (first | (with_reducible refine then_exit ?_) | (with_reducible refine block_here ?_) | (with_reducible refine block_past rfl ?_))
      refine hK25 _ _ ?_
      refine rgs mixed 52 [.eq (.int .i64 16)] [[]] d41 z41 (by kernel_rfl) ⟨Ov rfl rfl fun _ _ T _ => ex_assign rfl, trivial⟩ ?_
      intro a57 w57 d57 z57 t57 e57 q57
      refine wp_seq_k fun K58 hK58 => ?_
      have s59_6 := ((q57 6 rfl).trans ((q41 6 rfl).trans s26_6))
      refine rgs mixed 52 [.eq (.int .i64 z), .eq (.int .i64 z)] [[(6, none)], [(34, some 0)]] d57 z57 (by kernel_rfl) ⟨Ov rfl rfl fun _ _ T ⟨k6, _⟩ => ex_move (k6.trans s59_6), Ov rfl rfl fun _ _ T ⟨k34, _⟩ => ex_assign k34, trivial⟩ ?_
      intro a60 w60 d60 z60 t60 e60 q60
      refine wp_block ?_
      have s62_2 := ((q60 2 rfl).trans ((q57 2 rfl).trans ((q41 2 rfl).trans s26_2)))
      have s63_3 := ((q60 3 rfl).trans ((q57 3 rfl).trans ((q41 3 rfl).trans s26_3)))
      have s64_4 := ((q60 4 rfl).trans ((q57 4 rfl).trans ((q41 4 rfl).trans s26_4)))
      have s65_5 := ((q60 5 rfl).trans ((q57 5 rfl).trans ((q41 5 rfl).trans s26_5)))
      have s66_6 := ((q60 6 rfl).trans s59_6)
      have s67_7 : a57.eval (.tmp 7) = .int .i64 16 := e57.1
      have s68_7 := ((q60 7 rfl).trans s67_7)
      have s69_8 : a60.eval (.tmp 8) = .int .i64 z := e60.2.1
      have s70_15 := ((q60 15 rfl).trans ((q57 15 rfl).trans ((q41 15 rfl).trans s26_15)))
      have s71_16 := ((q60 16 rfl).trans ((q57 16 rfl).trans ((q41 16 rfl).trans s26_16)))
      have s72_17 := ((q60 17 rfl).trans ((q57 17 rfl).trans ((q41 17 rfl).trans s26_17)))
      have s73_18 : a41.eval (.tmp 18) = .int .i64 lo := e41.1
      have s74_18 := ((q60 18 rfl).trans ((q57 18 rfl).trans s73_18))
      have s75_19 : a41.eval (.tmp 19) = .int .i64 z := e41.2.1
      have s76_19 := ((q60 19 rfl).trans ((q57 19 rfl).trans s75_19))
      have s77_20 : a41.eval (.tmp 20) = .int .i64 (2 * z) := e41.2.2.1
      have s78_20 := ((q60 20 rfl).trans ((q57 20 rfl).trans s77_20))
      have s79_21 : a41.eval (.tmp 21) = .int .i64 (lo % (2 * z)) := e41.2.2.2.1
      have s80_21 := ((q60 21 rfl).trans ((q57 21 rfl).trans s79_21))
      have s81_22 : a41.eval (.tmp 22) = .bool (decide ((lo % (2 * z)) = 0)) := e41.2.2.2.2.1
      have s82_22 := ((q60 22 rfl).trans ((q57 22 rfl).trans s81_22))
      have s83_23 : a41.eval (.tmp 23) = .bool (decide ((lo % (2 * z)) = 0)) := e41.2.2.2.2.2.1
      have s84_23 := ((q60 23 rfl).trans ((q57 23 rfl).trans s83_23))
      have s85_31 := ((q60 31 rfl).trans ((q57 31 rfl).trans s56_31))
      have s86_34 : a60.eval (.tmp 34) = .int .i64 z := e60.1
      have x87 := (Touch.trans (Touch.trans (Touch.trans x26 (Ext.touch t41)) (Ext.touch t57)) (Ext.touch t60))
      have f19_88 := (own_keep (own_keep (own_keep f19_39 t41) t57) t60)
      refine wp_loopg (σ := Nat) (fun nQ aQ wQ => ∃ y : Int, ∃ j : Nat, nQ = (k - j) ∧
        aQ.defers = [] ∧
        aQ.tmps.size = 52 ∧
        aQ.eval (.tmp 2) = .slice none 0 0 ∧
        aQ.eval (.tmp 3) = .slice Q L.length cq ∧
        aQ.eval (.tmp 4) = .int .i64 lo ∧
        aQ.eval (.tmp 5) = .int .i64 rh ∧
        aQ.eval (.tmp 6) = .int .i64 z ∧
        aQ.eval (.tmp 7) = .int .i64 (16 - (j : Int)) ∧
        aQ.eval (.tmp 8) = .int .i64 y ∧
        aQ.eval (.tmp 15) = .int .i64 lo ∧
        aQ.eval (.tmp 16) = .int .i64 rh ∧
        aQ.eval (.tmp 17) = .bool (decide (lo ≤ rh)) ∧
        aQ.eval (.tmp 18) = .int .i64 lo ∧
        aQ.eval (.tmp 19) = .int .i64 z ∧
        aQ.eval (.tmp 20) = .int .i64 (2 * z) ∧
        aQ.eval (.tmp 21) = .int .i64 (lo % (2 * z)) ∧
        aQ.eval (.tmp 22) = .bool (decide ((lo % (2 * z)) = 0)) ∧
        aQ.eval (.tmp 23) = .bool (decide ((lo % (2 * z)) = 0)) ∧
        aQ.eval (.tmp 31) = .bool ((decide ((lo % (2 * z)) = 0)) && (decide (((lo + (2 * z)) - 1) ≤ rh))) ∧
        aQ.eval (.tmp 34) = .int .i64 z ∧
        Touch (NoF) w wQ ∧
        wQ.ownsRow 0 191 2 (.slice Q L.length cq) (L.length) (flat bvs L) ∧
        (y = 2 ^ (k - j)) ∧
        (1 ≤ y ∧ y ≤ 65536) ∧
        (j ≤ k)) (fun nQ => nQ) _ ⟨z, 0, rfl, d60, z60, s62_2, s63_3, s64_4, s65_5, s66_6, (s68_7.trans (by first | rfl | (congr 1; omega) | (simp; omega) | simp)), (s69_8.trans (by first | rfl | (congr 1; omega) | (simp; omega) | simp)), s70_15, s71_16, s72_17, s74_18, s76_19, s78_20, s80_21, s82_22, s84_23, s85_31, s86_34, x87, f19_88, hz, by omega, Nat.zero_le _⟩ ?_
      rintro nQ61 a61 w61 ⟨y, j, hmu61, d61, z61, s61_2, s61_3, s61_4, s61_5, s61_6, s61_7, s61_8, s61_15, s61_16, s61_17, s61_18, s61_19, s61_20, s61_21, s61_22, s61_23, s61_31, s61_34, x61, f19_89, hy, hy1, hj⟩
      refine wp_seq_k fun K90 hK90 => ?_
      refine rgs mixed 52 [.eq (.int .i64 y), .eq (.bool (decide (1 < y)))] [[(8, none)], [(35, some 0)]] d61 z61 (by kernel_rfl) ⟨Ov rfl rfl fun _ _ T ⟨k8, _⟩ => ex_move (k8.trans s61_8), Ov rfl rfl fun _ _ T ⟨k35, _⟩ => ex_gtr k35 rfl, trivial⟩ ?_
      intro a91 w91 d91 z91 t91 e91 q91
      by_cases c92 : 1 < y
      · have y92 := decide_eq_true c92
        have s93_36 : a91.eval (.tmp 36) = .bool (decide (1 < y)) := e91.2.1
        refine wp_cond_true (s93_36.trans (by rw [y92])) ?_
        refine wp_skip ?_
        repeat (with_reducible refine block_norm ?_)
        refine hK90 _ _ ?_
        refine wp_seq_k fun K94 hK94 => ?_
        refine wp_block ?_
        have s95_7 := ((q91 7 rfl).trans s61_7)
        refine rg mixed 52 [.eq (.int .i64 (16 - (j : Int))), .eq (.int .i64 ((16 - (j : Int)) - 1)), .eq (.int .i64 ((16 - (j : Int)) - 1))] [[(7, none)], [(39, some 0)], [(40, some 1)]] d91 z91 (by kernel_rfl) ⟨Ov rfl rfl fun _ _ T ⟨k7, _⟩ => ex_move (k7.trans s95_7), Ov rfl rfl fun _ _ T ⟨k39, _⟩ => ex_sub64 k39 rfl (by omega), Ov rfl rfl fun _ _ T ⟨k40, _⟩ => ex_assign k40, trivial⟩ ?_
        intro a96 w96 d96 z96 t96 e96 q96
        repeat (with_reducible refine block_norm ?_)
        refine hK94 _ _ ?_
        have s97_8 := ((q96 8 rfl).trans ((q91 8 rfl).trans s61_8))
        refine rg mixed 52 [.eq (.int .i64 y), .eq (.int .i64 (y / 2)), .eq (.int .i64 (y / 2))] [[(8, none)], [(37, some 0)], [(38, some 1)]] d96 z96 (by kernel_rfl) ⟨Ov rfl rfl fun _ _ T ⟨k8, _⟩ => ex_move (k8.trans s97_8), Ov rfl rfl fun _ _ T ⟨k37, _⟩ => (ex_quo k37 rfl (by omega)).trans (by rw [Int.tdiv_eq_ediv_of_nonneg (by omega), wrap_i64 (by omega)]), Ov rfl rfl fun _ _ T ⟨k38, _⟩ => ex_assign k38, trivial⟩ ?_
        intro a98 w98 d98 z98 t98 e98 q98
        repeat (with_reducible refine block_norm ?_)
        have s99_2 := ((q98 2 rfl).trans ((q96 2 rfl).trans ((q91 2 rfl).trans s61_2)))
        have s100_3 := ((q98 3 rfl).trans ((q96 3 rfl).trans ((q91 3 rfl).trans s61_3)))
        have s101_4 := ((q98 4 rfl).trans ((q96 4 rfl).trans ((q91 4 rfl).trans s61_4)))
        have s102_5 := ((q98 5 rfl).trans ((q96 5 rfl).trans ((q91 5 rfl).trans s61_5)))
        have s103_6 := ((q98 6 rfl).trans ((q96 6 rfl).trans ((q91 6 rfl).trans s61_6)))
        have s104_7 : a96.eval (.tmp 7) = .int .i64 ((16 - (j : Int)) - 1) := e96.2.2.1
        have s105_7 := ((q98 7 rfl).trans s104_7)
        have s106_8 : a98.eval (.tmp 8) = .int .i64 (y / 2) := e98.2.2.1
        have s107_15 := ((q98 15 rfl).trans ((q96 15 rfl).trans ((q91 15 rfl).trans s61_15)))
        have s108_16 := ((q98 16 rfl).trans ((q96 16 rfl).trans ((q91 16 rfl).trans s61_16)))
        have s109_17 := ((q98 17 rfl).trans ((q96 17 rfl).trans ((q91 17 rfl).trans s61_17)))
        have s110_18 := ((q98 18 rfl).trans ((q96 18 rfl).trans ((q91 18 rfl).trans s61_18)))
        have s111_19 := ((q98 19 rfl).trans ((q96 19 rfl).trans ((q91 19 rfl).trans s61_19)))
        have s112_20 := ((q98 20 rfl).trans ((q96 20 rfl).trans ((q91 20 rfl).trans s61_20)))
        have s113_21 := ((q98 21 rfl).trans ((q96 21 rfl).trans ((q91 21 rfl).trans s61_21)))
        have s114_22 := ((q98 22 rfl).trans ((q96 22 rfl).trans ((q91 22 rfl).trans s61_22)))
        have s115_23 := ((q98 23 rfl).trans ((q96 23 rfl).trans ((q91 23 rfl).trans s61_23)))
        have s116_31 := ((q98 31 rfl).trans ((q96 31 rfl).trans ((q91 31 rfl).trans s61_31)))
        have s117_34 := ((q98 34 rfl).trans ((q96 34 rfl).trans ((q91 34 rfl).trans s61_34)))
        have x118 := (Touch.trans (Touch.trans (Touch.trans x61 (Ext.touch t91)) (Ext.touch t96)) (Ext.touch t98))
        have f19_119 := (own_keep (own_keep (own_keep f19_89 t91) t96) t98)
        refine then_norm ?_
        refine ⟨_, ⟨y / 2, j + 1, rfl, d98, z98, s99_2, s100_3, s101_4, s102_5, s103_6, (s105_7.trans (by first | rfl | (congr 1; omega) | (simp; omega) | simp)), s106_8, s107_15, s108_16, s109_17, s110_18, s111_19, s112_20, s113_21, s114_22, s115_23, s116_31, s117_34, x118, f19_119, (by obtain ⟨m', hm', hy'⟩ := pow_half hy (by omega); rw [hy']; congr 1; omega), by omega, (by obtain ⟨m', hm', hy'⟩ := pow_half hy (by omega); omega)⟩, ?_⟩; (show _ < _); rw [hmu61]; exact (by obtain ⟨m', hm', hy'⟩ := pow_half hy (by omega); omega)
      · have y92 := decide_eq_false c92
        have s120_36 : a91.eval (.tmp 36) = .bool (decide (1 < y)) := e91.2.1
        refine wp_cond_false (s120_36.trans (by rw [y92])) ?_
        refine wp_exit ?_
        repeat (first | (with_reducible refine then_exit ?_) | (with_reducible refine block_here ?_) | (with_reducible refine block_past rfl ?_))
        refine hK58 _ _ ?_
        refine wp_seq ?_
        refine seq_begin ?_
        refine sp z91 rfl rfl (ex_move ((q91 3 rfl).trans s61_3)) ?_; intro a121 u121 z121
        refine sp z121 rfl rfl (ex_move ((u121.past 4 rfl).trans ((q91 4 rfl).trans s61_4))) ?_; intro a122 u122 z122
        refine sp z122 rfl rfl (ex_convert (u122.here _ rfl) (cvn_3_25 (by omega))) ?_; intro a123 u123 z123
        refine sp z123 rfl rfl (ex_move ((u123.past 7 rfl).trans ((u122.past 7 rfl).trans ((u121.past 7 rfl).trans ((q91 7 rfl).trans s61_7))))) ?_; intro a124 u124 z124
        refine sp z124 rfl rfl (exl_build (cons_parts ((u124.past 43 rfl).trans (u123.here _ rfl)) (cons_parts (u124.here _ rfl) nil_parts)) (bd_191_0Iu16_1Ii64 lo (16 - (j : Int)) _)) ?_; intro a125 u125 z125
        refine snew (mk := fun bQ => .slice (some ⟨bQ, 0, none⟩) 1 1) z125 rfl rfl (exl_buildSlice (cons_parts (u125.here _ rfl) nil_parts) (bs_188_1_0AIu16Ii64E lo (16 - (j : Int)) _)) ?_; intro b126 w126 a126 t126 g126 hb126 u126 z126
        have f19_128 := (own_keep f19_89 t91)
        have no127 := no_new f19_128 g126
        have x130 := (Touch.trans x61 (Ext.touch t91))
        have yb126_129 := Nat.le_trans (Touch.size x130) g126
        have f19_132 := (own_keep f19_128 t126)
        refine sapp (m := 1) (news := [.int .u16 lo, .int .i64 (16 - (j : Int))]) z126 rfl el_188 f19_132 ((u126.past 41 rfl).trans ((u125.past 41 rfl).trans ((u124.past 41 rfl).trans ((u123.past 41 rfl).trans ((u122.past 41 rfl).trans (u121.here _ rfl)))))) (u126.here _ rfl) rfl (news_of hb126) rfl (by omega) (by omega) ?_; intro A131 cp131 w131 a131 t131 u131 z131
        have no134 := App.no t131 (lt_of hb126) (fun (jQ : Nat) hQ (eQ : jQ = b126) => (fun (eQ : some b126 = _) => no127 _ eQ.symm rfl) (by rw [← eQ]; exact hQ.symm))
        have x136 := (Touch.trans x130 (Ext.touch t126))
        have no135 := App.base t131 (Touch.size x136) hbase
        refine sp z131 rfl rfl (ex_assign (u131.here _ rfl)) ?_; intro a137 u137 z137
        have d138 := (u137.defs.trans (u131.defs.trans (u126.defs.trans (u125.defs.trans (u124.defs.trans (u123.defs.trans (u122.defs.trans (u121.defs.trans d91))))))))
        refine seq_end ?_
        refine then_norm ?_
        have s139_4 := ((u137.past 4 rfl).trans ((u131.past 4 rfl).trans ((u126.past 4 rfl).trans ((u125.past 4 rfl).trans ((u124.past 4 rfl).trans ((u123.past 4 rfl).trans ((u122.past 4 rfl).trans ((u121.past 4 rfl).trans ((q91 4 rfl).trans s61_4)))))))))
        have s140_6 := ((u137.past 6 rfl).trans ((u131.past 6 rfl).trans ((u126.past 6 rfl).trans ((u125.past 6 rfl).trans ((u124.past 6 rfl).trans ((u123.past 6 rfl).trans ((u122.past 6 rfl).trans ((u121.past 6 rfl).trans ((q91 6 rfl).trans s61_6)))))))))
        refine rg mixed 52 [.eq (.int .i64 lo), .eq (.int .i64 z), .eq (.int .i64 (lo + z)), .eq (.int .i64 (lo + z))] [[(4, none)], [(6, none)], [(48, some 0), (49, some 1)], [(50, some 2)]] d138 z137 (by kernel_rfl) ⟨Ov rfl rfl fun _ _ T ⟨k4, _⟩ => ex_move (k4.trans s139_4),
          Ov rfl rfl fun _ _ T ⟨k6, _⟩ => ex_move (k6.trans s140_6),
          Ov rfl rfl fun _ _ T ⟨k48, k49, _⟩ => ex_add64 k48 k49 (by omega),
          Ov rfl rfl fun _ _ T ⟨k50, _⟩ => ex_assign k50,
          trivial⟩ ?_
        intro a141 w141 d141 z141 t141 e141 q141
        repeat (with_reducible refine block_norm ?_)
        have bp := blks_push hB hlo.1 (by omega) (by omega) hk16 hz hzm
        have e16 : (16 : Int) - (j : Int) = 16 - (k : Int) := by have : j = k := Nat.le_antisymm hj (by rcases Nat.lt_or_ge j k with h | h; exfalso; obtain ⟨d, hd⟩ : ∃ d, k - j = d + 1 := ⟨k - j - 1, by omega⟩; rw [hd, Int.pow_succ] at hy; have : (0:Int) < 2 ^ d := Int.pow_pos (by omega); omega; exact h); omega
        rw [← e16] at bp
        have s142_2 := ((q141 2 rfl).trans ((u137.past 2 rfl).trans ((u131.past 2 rfl).trans ((u126.past 2 rfl).trans ((u125.past 2 rfl).trans ((u124.past 2 rfl).trans ((u123.past 2 rfl).trans ((u122.past 2 rfl).trans ((u121.past 2 rfl).trans ((q91 2 rfl).trans s61_2))))))))))
        have s143_3 : a137.eval (.tmp 3) = .slice A131 (L.length + 1) cp131 := (u137.here _ rfl)
        have s144_3 := ((q141 3 rfl).trans s143_3)
        have s145_4 : a141.eval (.tmp 4) = .int .i64 (lo + z) := e141.2.2.2.1
        have s146_5 := ((q141 5 rfl).trans ((u137.past 5 rfl).trans ((u131.past 5 rfl).trans ((u126.past 5 rfl).trans ((u125.past 5 rfl).trans ((u124.past 5 rfl).trans ((u123.past 5 rfl).trans ((u122.past 5 rfl).trans ((u121.past 5 rfl).trans ((q91 5 rfl).trans s61_5))))))))))
        have x147 := (Touch.trans (Touch.via x136 t131.touch (fun jQ hQ => Or.inr (hbase jQ hQ.symm))) (Ext.touch t141))
        have t131.own_148 := (own_keep t131.own t141)
        refine then_norm ?_
        refine ⟨_, ⟨L ++ [(lo, 16 - (j : Int))], A131, cp131, lo + z, rfl, d141, z141, s142_2, (s144_3.trans (by first | rfl | (congr 1; omega) | (simp; omega) | simp)), s145_4, s146_5, x147, (by rw [← flat_push, List.length_append]; exact t131.own_148), bp, by omega, (by simp only [List.length_append, List.length_cons, List.length_nil]; omega), (by rw [List.length_append]; exact no135)⟩, ?_⟩; (show _ < _); rw [hmu11]; exact by omega
  · have y22 := decide_eq_false c22
    have s149_17 : a21.eval (.tmp 17) = .bool (decide (lo ≤ rh)) := e21.2.2.1
    refine wp_cond_false (s149_17.trans (by rw [y22])) ?_
    refine wp_exit ?_
    repeat (first | (with_reducible refine then_exit ?_) | (with_reducible refine block_here ?_) | (with_reducible refine block_past rfl ?_))
    refine hK10 _ _ ?_
    have s150_3 := ((q21 3 rfl).trans s11_3)
    refine rgs mixed 52 [.eq (.slice Q L.length cq), .eq (.slice Q L.length cq)] [[(3, none)], [(51, some 0)]] d21 z21 (by kernel_rfl) ⟨Ov rfl rfl fun _ _ T ⟨k3, _⟩ => ex_move (k3.trans s150_3), Ov rfl rfl fun _ _ T ⟨k51, _⟩ => ex_assign k51, trivial⟩ ?_
    intro a151 w151 d151 z151 t151 e151 q151
    refine wp_ret ?_
    have s152_2 : a151.eval (.tmp 2) = .slice Q L.length cq := e151.2.1
    repeat (first | (with_reducible refine then_ret ?_) | (with_reducible refine block_ret ?_))
    refine retl (rs := [.tmp 2]) Try.results103 ⟨s152_2, trivial⟩ d151 ?_
    have f19_153 := (own_keep (own_keep f19 t21) t151)
    have x154 := (Touch.trans (Touch.trans x11 (Ext.touch t21)) (Ext.touch t151))
    have e1 : lo = rh + 1 := by omega
    subst e1
    exact ⟨_, _, _, rfl, f19_153, (x154).ext, hbase, hB⟩

end Go.Proofs.Yticodddigaiipaa
