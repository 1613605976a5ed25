/-
 Contracts of functions of the given program, each proved by a walk through its code: what a call answers, and what it leaves of memory; conditions: those ahead of each theorem's colon.
-/
import Derived.Test.YticodddigaiipaaSatS7
set_option linter.unusedVariables false
set_option linter.unusedSimpArgs false
namespace Go.Proofs.Yticodddigaiipaa
open Go.RowKit
theorem bd_61_  (w : World) : (Instr.build 61 #[]).run Try.prog w = .ok (.agg #[.int .u64 0, .int .u64 0]) w := by kernel_rfl

theorem dbl (m k : Nat) : m * 2 ^ k + m * 2 ^ k = m * 2 ^ (k + 1) := by rw [Nat.pow_succ, ← Nat.mul_assoc, Nat.mul_two]
theorem c_raddW {m n : Nat} (h : m + n < 340282366920938463463374607431768211456) (w : World) : Calls Try.prog 111 #[.agg #[.int .u64 (hiW m), .int .u64 (loW m)], .agg #[.int .u64 (hiW n), .int .u64 (loW n)]] w fun e w' => e = .returned (.agg #[.int .u64 (hiW (m + n)), .int .u64 (loW (m + n))]) ∧ Ext w w' := by
 have := c_radd (hiW m) (loW m) (hiW n) (loW n) w
 rw [radd_eq h] at this; exact this
theorem c_waddW {m n : Nat} (h : m + n < 340282366920938463463374607431768211456) (w : World) : Calls Try.prog 112 #[.agg #[.int .u64 (hiW m), .int .u64 (loW m)], .agg #[.int .u64 (hiW n), .int .u64 (loW n)]] w fun e w' => e = .returned (.agg #[.int .u64 (hiW (m + n)), .int .u64 (loW (m + n))]) ∧ Ext w w' := by
 have := c_wadd (hiW m) (loW m) (hiW n) (loW n) (hiW_rng m) (loW_rng m) (hiW_rng n) (loW_rng n) w
 rw [wadd_eq h] at this; exact this
theorem c_wupW {m : Nat} {n : Int} (h0 : 0 ≤ n) (h1 : n < 128) (h : m * 2 ^ n.toNat < 340282366920938463463374607431768211456) (w : World) : Calls Try.prog 77 #[.agg #[.int .u64 (hiW m), .int .u64 (loW m)], .int .i64 n] w fun e w' => e = .returned (.agg #[.int .u64 (hiW (m * 2 ^ n.toNat)), .int .u64 (loW (m * 2 ^ n.toNat))]) ∧ Ext w w' := by
 have := c_wup (hiW m) (loW m) n w
 rw [wup_eq h0 h1 h] at this; exact this
theorem c_wofW (w : World) : Calls Try.prog 105 #[.int .u64 1] w fun e w' => e = .returned (.agg #[.int .u64 (hiW 1), .int .u64 (loW 1)]) ∧ Ext w w' := by
 have := c_wof 1 w
 rw [show wof 1 = (hiW 1, loW 1) from rfl] at this; exact this

set_option maxRecDepth 100000 in
set_option maxHeartbeats 4000000 in
theorem c_Up01 {w : World} {m : Nat} {n : Int} (h0 : 0 ≤ n) (h1 : n < 128) (h : m * 2 ^ n.toNat < 340282366920938463463374607431768211456) : Calls Try.prog 74 #[.agg #[.int .u64 (hiW m), .int .u64 (loW m)], .int .i64 n] w fun e w' => e = .returned (.agg #[.int .u64 (hiW (m * 2 ^ n.toNat)), .int .u64 (loW (m * 2 ^ n.toNat))]) ∧ Ext w w' := by
 refine enter 22 Try.ntmps74 Try.func74 rfl (Nat.le_of_ble_eq_true rfl) fun a0 d0 z0 hargs => ?_
 have s0_0 : a0.eval (.tmp 0) = .agg #[.int .u64 (hiW m), .int .u64 (loW m)] := hargs 0 _ rfl
 have s0_1 : a0.eval (.tmp 1) = .int .i64 n := hargs 1 _ rfl
 have x0 := Touch.refl NoF w
 refine wp_seq ?_
 refine seq_begin ?_
 refine sbox z0 rfl s0_0 ?_; intro b1 w1 a1 t1 g1 hb1 u1 z1
 have yb1_2 := Nat.le_trans (Touch.size x0) g1
 refine salloc z1 rfl (zv_61 _) ?_; intro b3 w3 a3 t3 g3 hb3 u3 z3
 have n4_b1_b3 := ne_lt (lt_of hb1) g3
 have x6 := (Touch.trans x0 (Ext.touch t1))
 have yb3_5 := Nat.le_trans (Touch.size x6) g3
 have d7 := (u3.defs.trans (u1.defs.trans d0))
 refine seq_end ?_
 refine then_norm ?_
 refine wp_seq_k fun K8 hK8 => ?_
 have s9_1 := ((u3.past 1 rfl).trans ((u1.past 1 rfl).trans s0_1))
 refine rgs mixed 22 [.eq (.int .i64 n), .eq (.bool (decide (n < 0))), .eq (.bool (decide (n < 0))), .eq (if (decide (n < 0)) = false then .int .i64 n else undef), .eq (if (decide (n < 0)) = false then .bool (decide (128 ≤ n)) else undef), .eq (.bool ((decide (n < 0)) || (decide (128 ≤ n))))] [[(1, none)], [(6, some 0)], [(7, some 1)], [(1, none), (8, some 2)], [(9, some 3), (8, some 2)], [(8, some 2), (10, some 4)]] d7 z3 (by kernel_rfl) ⟨Ov rfl rfl fun _ _ T ⟨k1, _⟩ => ex_move (k1.trans s9_1),
  Ov rfl rfl fun _ _ T ⟨k6, _⟩ => ex_lss k6 rfl,
  Ov rfl rfl fun _ _ T ⟨k7, _⟩ => ex_move k7,
  Og rfl rfl rfl fun _ _ T ⟨k1, k8, _⟩ => ⟨k8, fun hcQ => ex_move (k1.trans s9_1)⟩,
  Og rfl rfl rfl fun _ _ T ⟨k9, k8, _⟩ => ⟨k8, fun hcQ => ex_geq (k9.trans (if_pos hcQ)) rfl⟩,
  Ov rfl rfl fun _ _ T ⟨k8, k10, _⟩ => ex_pick_or k8 rfl k10,
  trivial⟩ ?_
 intro a10 w10 d10 z10 t10 e10 q10
 have x11 := (Touch.trans (Touch.trans x6 (Ext.touch t3)) (Ext.touch t10))
 rcases Bool.eq_false_or_eq_true ((decide (n < 0)) || (decide (128 ≤ n))) with y12 | y12
 ·have c12 := y12; try simp only [Bool.and_eq_true, Bool.or_eq_true, Bool.and_eq_false_iff, Bool.or_eq_false_iff, Bool.not_eq_true', Bool.not_eq_false', decide_eq_true_eq, decide_eq_false_iff_not] at c12
  have s13_11 : a10.eval (.tmp 11) = .bool ((decide (n < 0)) || (decide (128 ≤ n))) := e10.2.2.2.2.2.1
  refine wp_cond_true (s13_11.trans (by rw [y12])) ?_
  refine wp_seq ?_
  refine seq_begin ?_
  refine sp z10 rfl rfl (exl_build nil_parts (bd_61_ _)) ?_; intro a14 u14 z14
  have hb3_16 := (Ext.keep t10 hb3)
  refine sstore (cs := [.int .u64 0, .int .u64 0]) (vs := [.int .u64 0, .int .u64 0]) (cs' := [.int .u64 0, .int .u64 0]) z14 rfl ((u14.past 4 rfl).trans ((q10 4 rfl).trans (u3.here _ rfl))) (u14.here _ rfl) hb3_16 (Try.sizeOf61 _) rfl rfl (by decide) (Nat.le_of_ble_eq_true rfl) rfl rfl ?_; intro w15 a15 t15 u15 z15
  have d17 := (u15.defs.trans (u14.defs.trans d10))
  refine seq_end ?_
  refine then_norm ?_
  refine wp_ret ?_
  have s18_4 : a3.eval (.tmp 4) = .pointer (some ⟨b3, 0, none⟩) := (u3.here _ rfl)
  have s19_4 := ((u15.past 4 rfl).trans ((u14.past 4 rfl).trans ((q10 4 rfl).trans s18_4)))
  repeat (first | (with_reducible refine then_ret ?_) | (with_reducible refine block_ret ?_))
  refine retl (rs := [.cell 4 61]) Try.results74 ⟨⟨_, s19_4, run_loadVarA (cs := [.int .u64 0, .int .u64 0]) (Try.isAgg61 _) (Try.sizeOf61 _) (cells_of (off := 0) t15.here rfl)⟩, trivial⟩ d17 ?_
  exfalso; simp only [Bool.and_eq_true, Bool.or_eq_true, Bool.and_eq_false_iff, Bool.or_eq_false_iff, Bool.not_eq_true', Bool.not_eq_false', decide_eq_true_eq, decide_eq_false_iff_not, beq_iff_eq, beq_eq_false_iff_ne, ne_eq, Bool.not_eq_true, Bool.not_eq_false] at *; omega
 ·have c12 := y12; try simp only [Bool.and_eq_true, Bool.or_eq_true, Bool.and_eq_false_iff, Bool.or_eq_false_iff, Bool.not_eq_true', Bool.not_eq_false', decide_eq_true_eq, decide_eq_false_iff_not] at c12
  have s20_11 : a10.eval (.tmp 11) = .bool ((decide (n < 0)) || (decide (128 ≤ n))) := e10.2.2.2.2.2.1
  refine wp_cond_false (s20_11.trans (by rw [y12])) ?_
  refine wp_skip ?_
  repeat (with_reducible refine block_norm ?_)
  refine hK8 _ _ ?_
  refine wp_seq_k fun K21 hK21 => ?_
  refine rgs mixed 22 [.eq (.int .i64 0)] [[]] d10 z10 (by kernel_rfl) ⟨Ov rfl rfl fun _ _ T _ => ex_assign rfl, trivial⟩ ?_
  intro a22 w22 d22 z22 t22 e22 q22
  refine wp_block ?_
  have s24_1 := ((q22 1 rfl).trans ((q10 1 rfl).trans s9_1))
  have s25_2 : a1.eval (.tmp 2) = .pointer (some ⟨b1, 0, none⟩) := (u1.here _ rfl)
  have s26_2 := ((q22 2 rfl).trans ((q10 2 rfl).trans ((u3.past 2 rfl).trans s25_2)))
  have s27_4 : a3.eval (.tmp 4) = .pointer (some ⟨b3, 0, none⟩) := (u3.here _ rfl)
  have s28_4 := ((q22 4 rfl).trans ((q10 4 rfl).trans s27_4))
  have s29_5 : a22.eval (.tmp 5) = .int .i64 0 := e22.1
  have x30 := (Touch.trans x11 (Ext.touch t22))
  have hb1_31 := (Ext.keep t22 (Ext.keep t10 (Ext.keep t3 hb1)))
  have hb3_33 := (Ext.keep t22 (Ext.keep t10 hb3))
  refine wp_loopg (σ := Nat) (fun nQ aQ wQ => ∃ k : Nat, nQ = (n.toNat - k) ∧
   aQ.defers = [] ∧
   aQ.tmps.size = 22 ∧
   aQ.eval (.tmp 1) = .int .i64 n ∧
   aQ.eval (.tmp 2) = .pointer (some ⟨b1, 0, none⟩) ∧
   aQ.eval (.tmp 4) = .pointer (some ⟨b3, 0, none⟩) ∧
   aQ.eval (.tmp 5) = .int .i64 (k : Int) ∧
   Touch (NoF) w wQ ∧
   wQ.heap[b1]? = some (.cells #[.int .u64 (hiW (m * 2 ^ k)), .int .u64 (loW (m * 2 ^ k))] 61 (0, 0)) ∧
   wQ.heap[b3]? = some (.cells #[.int .u64 0, .int .u64 0] 61 (0, 0)) ∧
   ((k : Int) ≤ n)) (fun nQ => nQ) _ ⟨0, rfl, d22, z22, s24_1, s26_2, s28_4, (s29_5.trans (by first | rfl | (rw [dbl]) | (simp [Value.cells]))), x30, (hb1_31.trans (by first | rfl | (rw [dbl]) | (simp [Value.cells]))), hb3_33, by omega⟩ ?_
  rintro nQ23 a23 w23 ⟨k, hmu23, d23, z23, s23_1, s23_2, s23_4, s23_5, x23, hb1_32, hb3_34, hk⟩
  refine wp_seq_k fun K35 hK35 => ?_
  refine rgs mixed 22 [.eq (.int .i64 (k : Int)), .eq (.int .i64 n), .eq (.bool (decide ((k : Int) < n)))] [[(5, none)], [(1, none)], [(13, some 0), (14, some 1)]] d23 z23 (by kernel_rfl) ⟨Ov rfl rfl fun _ _ T ⟨k5, _⟩ => ex_move (k5.trans s23_5), Ov rfl rfl fun _ _ T ⟨k1, _⟩ => ex_move (k1.trans s23_1), Ov rfl rfl fun _ _ T ⟨k13, k14, _⟩ => ex_lss k13 k14, trivial⟩ ?_
  intro a36 w36 d36 z36 t36 e36 q36
  by_cases c37 : (k : Int) < n
  ·have y37 := decide_eq_true c37
   have s38_15 : a36.eval (.tmp 15) = .bool (decide ((k : Int) < n)) := e36.2.2.1
   refine wp_cond_true (s38_15.trans (by rw [y37])) ?_
   refine wp_skip ?_
   repeat (with_reducible refine block_norm ?_)
   refine hK35 _ _ ?_
   refine wp_seq_k fun K39 hK39 => ?_
   refine wp_block ?_
   have hpk : m * 2 ^ k + m * 2 ^ k < 340282366920938463463374607431768211456 := by rw [dbl]; exact Nat.lt_of_le_of_lt (Nat.mul_le_mul_left m (Nat.pow_le_pow_right (n := 2) (by omega) (show k + 1 ≤ n.toNat by omega))) h
   refine seq_begin ?_
   have hb1_41 := (Ext.keep t36 hb1_32)
   refine sp z36 rfl rfl (ex_loadAgg (cs := [.int .u64 (hiW (m * 2 ^ k)), .int .u64 (loW (m * 2 ^ k))]) ((q36 2 rfl).trans s23_2) (Try.isAgg61 _) (Try.sizeOf61 _) (cells_of (off := 0) hb1_41 rfl)) ?_; intro a40 u40 z40
   refine sp z40 rfl rfl (ex_loadAgg (cs := [.int .u64 (hiW (m * 2 ^ k)), .int .u64 (loW (m * 2 ^ k))]) ((u40.past 2 rfl).trans ((q36 2 rfl).trans s23_2)) (Try.isAgg61 _) (Try.sizeOf61 _) (cells_of (off := 0) hb1_41 rfl)) ?_; intro a42 u42 z42
   refine scx z42 rfl rfl (exl_call Try.func111 rfl rfl (cons_ops ((u42.past 18 rfl).trans (u40.here _ rfl)) (cons_ops (u42.here _ rfl) nil_ops))) (c_raddW (m := (m * 2 ^ k)) (n := (m * 2 ^ k)) (hpk) _) ?_; intro w43 a43 t43 u43 z43
   have p45 := fr4 q36 u40.past u42.past u43.past
   have hb1_46 := (Ext.keep t43 hb1_41)
   refine sstore (cs := [.int .u64 (hiW (m * 2 ^ k)), .int .u64 (loW (m * 2 ^ k))]) (vs := [.int .u64 (hiW ((m * 2 ^ k) + (m * 2 ^ k))), .int .u64 (loW ((m * 2 ^ k) + (m * 2 ^ k)))]) (cs' := [.int .u64 (hiW ((m * 2 ^ k) + (m * 2 ^ k))), .int .u64 (loW ((m * 2 ^ k) + (m * 2 ^ k)))]) z43 rfl ((p45 2 rfl).trans s23_2) (u43.here _ rfl) hb1_46 (Try.sizeOf61 _) rfl rfl (by decide) (Nat.le_of_ble_eq_true rfl) rfl rfl ?_; intro w44 a44 t44 u44 z44
   have d47 := (u44.defs.trans (u43.defs.trans (u42.defs.trans (u40.defs.trans d36))))
   refine seq_end ?_
   repeat (with_reducible refine block_norm ?_)
   refine hK39 _ _ ?_
   have s48_5 := ((u44.past 5 rfl).trans ((p45 5 rfl).trans s23_5))
   refine rg mixed 22 [.eq (.int .i64 (k : Int)), .eq (.int .i64 ((k : Int) + 1)), .eq (.int .i64 ((k : Int) + 1))] [[(5, none)], [(16, some 0)], [(17, some 1)]] d47 z44 (by kernel_rfl) ⟨Ov rfl rfl fun _ _ T ⟨k5, _⟩ => ex_move (k5.trans s48_5), Ov rfl rfl fun _ _ T ⟨k16, _⟩ => ex_add64 k16 rfl (by omega), Ov rfl rfl fun _ _ T ⟨k17, _⟩ => ex_assign k17, trivial⟩ ?_
   intro a49 w49 d49 z49 t49 e49 q49
   repeat (with_reducible refine block_norm ?_)
   have s50_1 := ((q49 1 rfl).trans ((u44.past 1 rfl).trans ((p45 1 rfl).trans s23_1)))
   have s51_2 := ((q49 2 rfl).trans ((u44.past 2 rfl).trans ((p45 2 rfl).trans s23_2)))
   have s52_4 := ((q49 4 rfl).trans ((u44.past 4 rfl).trans ((p45 4 rfl).trans s23_4)))
   have s53_5 : a49.eval (.tmp 5) = .int .i64 ((k : Int) + 1) := e49.2.2.1
   have x54 := (Touch.trans (Touch.turn (Touch.trans (Touch.trans x23 (Ext.touch t36)) (Ext.touch t43)) t44 (Or.inr yb1_2)) (Ext.touch t49))
   have t44.here_55 := (Ext.keep t49 t44.here)
   have hb3_56 := (Ext.keep t49 (Turn.keep t44 (Ext.keep t43 (Ext.keep t36 hb3_34)) (Ne.symm n4_b1_b3)))
   refine then_norm ?_
   refine ⟨_, ⟨k + 1, rfl, d49, z49, s50_1, s51_2, s52_4, (s53_5.trans (by first | rfl | (rw [dbl]) | (simp [Value.cells]))), x54, (t44.here_55.trans (by first | rfl | (rw [dbl]) | (simp [Value.cells]))), hb3_56, by omega⟩, ?_⟩; (show _ < _); rw [hmu23]; exact by omega
  ·have y37 := decide_eq_false c37
   have s57_15 : a36.eval (.tmp 15) = .bool (decide ((k : Int) < n)) := e36.2.2.1
   refine wp_cond_false (s57_15.trans (by rw [y37])) ?_
   refine wp_exit ?_
   repeat (first | (with_reducible refine then_exit ?_) | (with_reducible refine block_here ?_) | (with_reducible refine block_past rfl ?_))
   refine hK21 _ _ ?_
   refine wp_seq ?_
   refine seq_begin ?_
   have hb1_59 := (Ext.keep t36 hb1_32)
   refine sp z36 rfl rfl (ex_loadAgg (cs := [.int .u64 (hiW (m * 2 ^ k)), .int .u64 (loW (m * 2 ^ k))]) ((q36 2 rfl).trans s23_2) (Try.isAgg61 _) (Try.sizeOf61 _) (cells_of (off := 0) hb1_59 rfl)) ?_; intro a58 u58 z58
   have hb3_61 := (Ext.keep t36 hb3_34)
   refine sstore (cs := [.int .u64 0, .int .u64 0]) (vs := [.int .u64 (hiW (m * 2 ^ k)), .int .u64 (loW (m * 2 ^ k))]) (cs' := [.int .u64 (hiW (m * 2 ^ k)), .int .u64 (loW (m * 2 ^ k))]) z58 rfl ((u58.past 4 rfl).trans ((q36 4 rfl).trans s23_4)) (u58.here _ rfl) hb3_61 (Try.sizeOf61 _) rfl rfl (by decide) (Nat.le_of_ble_eq_true rfl) rfl rfl ?_; intro w60 a60 t60 u60 z60
   have d62 := (u60.defs.trans (u58.defs.trans d36))
   refine seq_end ?_
   refine then_norm ?_
   refine wp_ret ?_
   have s63_4 := ((u60.past 4 rfl).trans ((u58.past 4 rfl).trans ((q36 4 rfl).trans s23_4)))
   repeat (first | (with_reducible refine then_ret ?_) | (with_reducible refine block_ret ?_))
   refine retl (rs := [.cell 4 61]) Try.results74 ⟨⟨_, s63_4, run_loadVarA (cs := [.int .u64 (hiW (m * 2 ^ k)), .int .u64 (loW (m * 2 ^ k))]) (Try.isAgg61 _) (Try.sizeOf61 _) (cells_of (off := 0) t60.here rfl)⟩, trivial⟩ d62 ?_
   have hkk : k = n.toNat := by omega
   subst hkk
   have x64 := (Touch.turn (Touch.trans x23 (Ext.touch t36)) t60 (Or.inr yb3_5))
   exact ⟨rfl, (x64).ext⟩

end Go.Proofs.Yticodddigaiipaa
