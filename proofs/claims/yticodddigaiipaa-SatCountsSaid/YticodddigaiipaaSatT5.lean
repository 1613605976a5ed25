/-
 Contracts of functions of the given program, each proved by a walk through its code: what a call answers, and what it leaves of memory; conditions: those ahead of each theorem's colon.
-/
import Derived.Test.YticodddigaiipaaSatT4
import Derived.Test.YticodddigaiipaaSatL2
import Derived.Test.YticodddigaiipaaSatK13
set_option linter.unusedVariables false
set_option linter.unusedSimpArgs false
namespace Go.Proofs.Yticodddigaiipaa
open Go.RowKit
theorem bd_119_0Ii64 (x0 : Int) (w : World) : (Instr.build 119 #[(0, .int .i64 x0)]).run Try.prog w = .ok (.agg #[.int .i64 x0, .int .i64 0, .int .i64 0]) w := by kernel_rfl
theorem bs_120_2_0AIi64Ii64Ii64E_1AIi64Ii64Ii64E (x0 : Int) (x1 : Int) (x2 : Int) (x3 : Int) (x4 : Int) (x5 : Int) (w : World) : (Instr.buildSlice 120 2 #[(0, .agg #[.int .i64 x0, .int .i64 x1, .int .i64 x2]), (1, .agg #[.int .i64 x3, .int .i64 x4, .int .i64 x5])]).run Try.prog w = .ok (.slice (some ⟨w.heap.size, 0, none⟩) 2 2) (w.alloc (.cells #[.int .i64 x0, .int .i64 x1, .int .i64 x2, .int .i64 x3, .int .i64 x4, .int .i64 x5] 119)) := by kernel_rfl
theorem bd_123_0S_1M_2Ii64 (x0 : Option Addr) (x1 : Nat) (x2 : Nat) (x3 : Option Nat) (x4 : Int) (w : World) : (Instr.build 123 #[(0, .slice x0 x1 x2), (1, .map x3), (2, .int .i64 x4)]).run Try.prog w = .ok (.agg #[.slice x0 x1 x2, .map x3, .int .i64 x4]) w := by kernel_rfl
theorem bd_133_0Ii64_1B (x0 : Int) (x1 : Bool) (w : World) : (Instr.build 133 #[(0, .int .i64 x0), (1, .bool x1)]).run Try.prog w = .ok (.agg #[.int .i64 x0, .bool x1]) w := by kernel_rfl
theorem bs_128_1_0AIi64BE (x0 : Int) (x1 : Bool) (w : World) : (Instr.buildSlice 128 1 #[(0, .agg #[.int .i64 x0, .bool x1])]).run Try.prog w = .ok (.slice (some ⟨w.heap.size, 0, none⟩) 1 1) (w.alloc (.cells #[.int .i64 x0, .bool x1] 133)) := by kernel_rfl
theorem zv_133 (w : World) : (zeroValue 133).run Try.prog w = .ok (.agg #[.int .i64 0, .bool false]) w := by kernel_rfl
theorem fa_133_0 (b off : Nat) (w : World) : (Instr.fieldAt 133 (.pointer (some ⟨b, off, none⟩)) 0).run Try.prog w = .ok (.pointer (some ⟨b, off, none⟩)) w := by kernel_rfl
theorem fa_133_1 (b off : Nat) (w : World) : (Instr.fieldAt 133 (.pointer (some ⟨b, off, none⟩)) 1).run Try.prog w = .ok (.pointer (some ⟨b, off + 1, none⟩)) w := by kernel_rfl
def lvs_ (x : Int × Bool) : List Value := [.int .i64 x.1, .bool x.2]
theorem lvs2 : ∀ x, (lvs_ x).length = 2 := fun _ => rfl
/-- bit i of n, from the highest -/
def litBit (x n i : Int) : Bool := decide (ibits .and .u32 (x.fdiv (2 ^ min (n - 1 - i).toNat IntKind.u32.bits)) 1 = 1)
def litL (base x n : Int) (k : Nat) : List (Int × Bool) := (List.range k).map fun i : Nat => (base + (i : Int), litBit x n i)
theorem wf_new : Wf [n0, n0] where
 len := Nat.le_refl _
 lo := rfl
 hi := rfl
 node i h2 hl := by simp at hl; omega
 nodup := by simp
theorem ix_new : ixOf [n0, n0] = fun _ => none := rfl

set_option maxRecDepth 100000 in
set_option maxHeartbeats 4000000 in
theorem c_New {w : World} (most : Int) (h2 : 2 ≤ most) (hm : most ≤ 262144) : Calls Try.prog 14 #[.int .i64 most] w fun e w' => ∃ b Fp, e = .returned (.tuple #[.pointer (some ⟨b, 0, none⟩), .int .i64 0]) ∧ ArenaAt w' b Fp [n0, n0] most ∧ Ext w w' ∧ ∀ j, Fp j → w.heap.size ≤ j := by
 refine enter 19 Try.ntmps14 Try.func14 rfl (Nat.le_of_ble_eq_true rfl) fun a0 d0 z0 hargs => ?_
 have s0_0 : a0.eval (.tmp 0) = .int .i64 most := hargs 0 _ rfl
 have x0 := Touch.refl NoF w
 refine rgs mixed 19 [.eq (.pointer none), .eq (.int .i64 0)] [[], []] d0 z0 (by kernel_rfl) ⟨Ov rfl rfl fun _ _ T _ => ex_assign rfl, Ov rfl rfl fun _ _ T _ => ex_assign rfl, trivial⟩ ?_
 intro a1 w1 d1 z1 t1 e1 q1
 refine wp_seq_k fun K2 hK2 => ?_
 have s3_0 := ((q1 0 rfl).trans s0_0)
 refine rgs mixed 19 [.eq (.int .i64 most), .eq (.bool (decide (most < 2))), .eq (.bool (decide (most < 2))), .eq (if (decide (most < 2)) = false then .int .i64 most else undef), .eq (if (decide (most < 2)) = false then .bool (decide (262144 < most)) else undef), .eq (.bool ((decide (most < 2)) || (decide (262144 < most))))] [[(0, none)], [(5, some 0)], [(6, some 1)], [(0, none), (7, some 2)], [(8, some 3), (7, some 2)], [(7, some 2), (9, some 4)]] d1 z1 (by kernel_rfl) ⟨Ov rfl rfl fun _ _ T ⟨k0, _⟩ => ex_move (k0.trans s3_0),
  Ov rfl rfl fun _ _ T ⟨k5, _⟩ => ex_lss k5 rfl,
  Ov rfl rfl fun _ _ T ⟨k6, _⟩ => ex_move k6,
  Og rfl rfl rfl fun _ _ T ⟨k0, k7, _⟩ => ⟨k7, fun hcQ => ex_move (k0.trans s3_0)⟩,
  Og rfl rfl rfl fun _ _ T ⟨k8, k7, _⟩ => ⟨k7, fun hcQ => ex_gtr (k8.trans (if_pos hcQ)) rfl⟩,
  Ov rfl rfl fun _ _ T ⟨k7, k9, _⟩ => ex_pick_or k7 rfl k9,
  trivial⟩ ?_
 intro a4 w4 d4 z4 t4 e4 q4
 have x5 := (Touch.trans (Touch.trans x0 (Ext.touch t1)) (Ext.touch t4))
 rcases Bool.eq_false_or_eq_true ((decide (most < 2)) || (decide (262144 < most))) with y6 | y6
 ·have c6 := y6; try simp only [Bool.and_eq_true, Bool.or_eq_true, Bool.and_eq_false_iff, Bool.or_eq_false_iff, Bool.not_eq_true', Bool.not_eq_false', decide_eq_true_eq, decide_eq_false_iff_not] at c6
  have s7_10 : a4.eval (.tmp 10) = .bool ((decide (most < 2)) || (decide (262144 < most))) := e4.2.2.2.2.2.1
  refine wp_cond_true (s7_10.trans (by rw [y6])) ?_
  refine rgs mixed 19 [.eq (.pointer none), .eq (.int .i64 1)] [[], []] d4 z4 (by kernel_rfl) ⟨Ov rfl rfl fun _ _ T _ => ex_assign rfl, Ov rfl rfl fun _ _ T _ => ex_assign rfl, trivial⟩ ?_
  intro a8 w8 d8 z8 t8 e8 q8
  refine wp_ret ?_
  have s9_2 : a8.eval (.tmp 2) = .pointer none := e8.1
  have s10_3 : a8.eval (.tmp 3) = .int .i64 1 := e8.2.1
  repeat (first | (with_reducible refine then_ret ?_) | (with_reducible refine block_ret ?_))
  refine rett (rs := [.tmp 2, .tmp 3]) (vs := [.pointer none, .int .i64 1]) Try.results14 ⟨s9_2, ⟨s10_3, trivial⟩⟩ (by simp) d8 ?_
  exfalso; simp only [Bool.or_eq_true, decide_eq_true_eq] at *; omega
 ·have c6 := y6; try simp only [Bool.and_eq_true, Bool.or_eq_true, Bool.and_eq_false_iff, Bool.or_eq_false_iff, Bool.not_eq_true', Bool.not_eq_false', decide_eq_true_eq, decide_eq_false_iff_not] at c6
  have s11_10 : a4.eval (.tmp 10) = .bool ((decide (most < 2)) || (decide (262144 < most))) := e4.2.2.2.2.2.1
  refine wp_cond_false (s11_10.trans (by rw [y6])) ?_
  refine wp_skip ?_
  repeat (with_reducible refine block_norm ?_)
  refine hK2 _ _ ?_
  refine wp_seq ?_
  refine seq_begin ?_
  refine sp z4 rfl rfl (exl_build (cons_parts rfl nil_parts) (bd_119_0Ii64 104 _)) ?_; intro a12 u12 z12
  refine salloc z12 rfl (zv_119 _) ?_; intro b13 w13 a13 t13 g13 hb13 u13 z13
  have yb13_14 := Nat.le_trans (Touch.size x5) g13
  refine sstore (cs := [.int .i64 0, .int .i64 0, .int .i64 0]) (vs := [.int .i64 104, .int .i64 0, .int .i64 0]) (cs' := [.int .i64 104, .int .i64 0, .int .i64 0]) z13 rfl (u13.here _ rfl) ((u13.past 11 rfl).trans (u12.here _ rfl)) hb13 (Try.sizeOf119 _) rfl rfl (by decide) (Nat.le_of_ble_eq_true rfl) rfl rfl ?_; intro w15 a15 t15 u15 z15
  have d16 := (u15.defs.trans (u13.defs.trans (u12.defs.trans d4)))
  refine seq_end ?_
  refine then_norm ?_
  refine wp_seq ?_
  refine seq_begin ?_
  refine sp z15 rfl rfl (ex_loadAgg (cs := [.int .i64 104, .int .i64 0, .int .i64 0]) ((u15.past 4 rfl).trans (u13.here _ rfl)) (Try.isAgg119 _) (Try.sizeOf119 _) (cells_of (off := 0) t15.here rfl)) ?_; intro a17 u17 z17
  refine sp z17 rfl rfl (ex_loadAgg (cs := [.int .i64 104, .int .i64 0, .int .i64 0]) ((u17.past 4 rfl).trans ((u15.past 4 rfl).trans (u13.here _ rfl))) (Try.isAgg119 _) (Try.sizeOf119 _) (cells_of (off := 0) t15.here rfl)) ?_; intro a18 u18 z18
  refine snew (mk := fun bQ => .slice (some ⟨bQ, 0, none⟩) 2 2) z18 rfl rfl (exl_buildSlice (cons_parts ((u18.past 12 rfl).trans (u17.here _ rfl)) (cons_parts (u18.here _ rfl) nil_parts)) (bs_120_2_0AIi64Ii64Ii64E_1AIi64Ii64Ii64E 104 0 0 104 0 0 _)) ?_; intro b19 w19 a19 t19 g19 hb19 u19 z19
  have n20_b13_b19 := ne_lt (lt_of t15.here) g19
  have x22 := (Touch.turn (Touch.trans x5 (Ext.touch t13)) t15 (Or.inr yb13_14))
  have yb19_21 := Nat.le_trans (Touch.size x22) g19
  refine snew (mk := fun bQ => .map (some bQ)) z19 rfl rfl (ex_makeMap Try.underlying121) ?_; intro b23 w23 a23 t23 g23 hb23 u23 z23
  have t15.here_25 := (Ext.keep t19 t15.here)
  have n24_b13_b23 := ne_lt (lt_of t15.here_25) g23
  have n26_b19_b23 := ne_lt (lt_of hb19) g23
  have x28 := (Touch.trans x22 (Ext.touch t19))
  have yb23_27 := Nat.le_trans (Touch.size x28) g23
  have hm23 := MapF.made (ek := nk) (ev := iv) hb23
  have p30 := fr4 u15.past u17.past u18.past u19.past
  refine sp z23 rfl rfl (ex_move ((u23.past 0 rfl).trans ((p30 0 rfl).trans ((u13.past 0 rfl).trans ((u12.past 0 rfl).trans ((q4 0 rfl).trans s3_0)))))) ?_; intro a29 u29 z29
  refine sp z29 rfl rfl (exl_build (cons_parts ((u29.past 14 rfl).trans ((u23.past 14 rfl).trans (u19.here _ rfl))) (cons_parts ((u29.past 15 rfl).trans (u23.here _ rfl)) (cons_parts (u29.here _ rfl) nil_parts))) (bd_123_0S_1M_2Ii64 (some ⟨b19, 0, none⟩) 2 2 (some b23) most _)) ?_; intro a31 u31 z31
  refine sbox z31 rfl (u31.here _ rfl) ?_; intro b32 w32 a32 t32 g32 hb32 u32 z32
  have t15.here_34 := (Ext.keep t23 t15.here_25)
  have n33_b13_b32 := ne_lt (lt_of t15.here_34) g32
  have hb19_36 := (Ext.keep t23 hb19)
  have n35_b19_b32 := ne_lt (lt_of hb19_36) g32
  have n37_b23_b32 := ne_lt (MapF.lt hm23) g32
  have x39 := (Touch.trans x28 (Ext.touch t23))
  have yb32_38 := Nat.le_trans (Touch.size x39) g32
  refine sp z32 rfl rfl (ex_assign (u32.here _ rfl)) ?_; intro a40 u40 z40
  refine sp z40 rfl rfl (ex_assign rfl) ?_; intro a41 u41 z41
  have d42 := (u41.defs.trans (u40.defs.trans (u32.defs.trans (u31.defs.trans (u29.defs.trans (u23.defs.trans (u19.defs.trans (u18.defs.trans (u17.defs.trans d16)))))))))
  refine seq_end ?_
  refine then_norm ?_
  refine wp_ret ?_
  have s43_2 : a40.eval (.tmp 2) = .pointer (some ⟨b32, 0, none⟩) := (u40.here _ rfl)
  have s44_2 := ((u41.past 2 rfl).trans s43_2)
  have s45_3 : a41.eval (.tmp 3) = .int .i64 0 := (u41.here _ rfl)
  repeat (first | (with_reducible refine then_ret ?_) | (with_reducible refine block_ret ?_))
  refine rett (rs := [.tmp 2, .tmp 3]) (vs := [.pointer (some ⟨b32, 0, none⟩), .int .i64 0]) Try.results14 ⟨s44_2, ⟨s45_3, trivial⟩⟩ (by simp) d42 ?_
  have hb19_46 := (Ext.keep t32 hb19_36)
  have hm23_47 := (MapF.keep hm23 t32)
  have x48 := (Touch.trans x39 (Ext.touch t32))
  exact ⟨_, _, rfl, ⟨_, _, 2, hb32, own_of (cs := flat nvs [n0, n0]) hb19_46 rfl (by decide), ⟨0, by rw [ix_new]; exact hm23_47⟩, rfl⟩, (x48).ext, by rintro jQ (rfl | rfl | rfl); exact yb32_38; exact yb23_27; exact yb19_21⟩

set_option maxRecDepth 100000 in
set_option maxHeartbeats 4000000 in
theorem c_Cube_ {w : World} {b : Nat} {Fp : Nat → Prop} {A : List N3} {most : Int} (H : ArenaAt w b Fp A most) (hW : Wf A) (hm : (A.length : Int) ≤ most) (hm2 : most ≤ 262144) {Q : Option Addr} {L : List Lt} {cq : Nat} (HL : w.ownsRow 0 133 2 (.slice Q L.length cq) L.length (flat lvs_ L)) (hL : Cubic L) (hLl : L.length ≤ 104) (hout : ∀ j, (Value.slice Q L.length cq).ownBlock = some j → ¬ Fp j) : Calls Try.prog 56 #[.pointer (some ⟨b, 0, none⟩), .slice Q L.length cq] w fun e w' => ∃ Fp' A' r c, e = .returned (.tuple #[.int .i64 r, .int .i64 c]) ∧ ArenaAt w' b Fp' A' most ∧ Mut Fp Fp' w w' ∧ Res A A' most c (Okn A' r ∧ ∀ v, den A' v r = cubeD L v) ∧ (c ≠ 0 → A' = A ∧ r = 0) ∧ (L = [] → c = 0 ∧ r = 1) ∧ (A', r, c) = cubeF A most L := by
 have hl2 := hW.len
 refine enter 82 Try.ntmps56 Try.func56 rfl (Nat.le_of_ble_eq_true rfl) fun a0 d0 z0 hargs => ?_
 have s0_0 : a0.eval (.tmp 0) = .pointer (some ⟨b, 0, none⟩) := hargs 0 _ rfl
 have s0_1 : a0.eval (.tmp 1) = .slice Q L.length cq := hargs 1 _ rfl
 have x0 := Touch.refl Fp w
 refine rgs mixed 82 [.eq (.int .i64 0), .eq (.int .i64 0)] [[], []] d0 z0 (by kernel_rfl) ⟨Ov rfl rfl fun _ _ T _ => ex_assign rfl, Ov rfl rfl fun _ _ T _ => ex_assign rfl, trivial⟩ ?_
 intro a1 w1 d1 z1 t1 e1 q1
 refine wp_seq_k fun K2 hK2 => ?_
 have s3_0 := ((q1 0 rfl).trans s0_0)
 refine rgs mixed 82 [.eq (.pointer (some ⟨b, 0, none⟩)), .eq (.bool false)] [[(0, none)], [(14, some 0)]] d1 z1 (by kernel_rfl) ⟨Ov rfl rfl fun _ _ T ⟨k0, _⟩ => ex_move (k0.trans s3_0), Ov rfl rfl fun _ _ T ⟨k14, _⟩ => ex_ptr_eql_nil k14 rfl (by kernel_rfl), trivial⟩ ?_
 intro a4 w4 d4 z4 t4 e4 q4
 have s5_15 : a4.eval (.tmp 15) = .bool false := e4.2.1
 refine wp_cond_false s5_15 ?_
 refine wp_skip ?_
 repeat (with_reducible refine block_norm ?_)
 refine hK2 _ _ ?_
 refine wp_seq_k fun K6 hK6 => ?_
 have s7_1 := ((q4 1 rfl).trans ((q1 1 rfl).trans s0_1))
 refine rgs mixed 82 [.eq (.slice Q L.length cq), .eq (.int .i64 (L.length : Int)), .eq (.int .i64 0)] [[(1, none)], [(16, some 0)], []] d4 z4 (by kernel_rfl) ⟨Ov rfl rfl fun _ _ T ⟨k1, _⟩ => ex_move (k1.trans s7_1), Ov rfl rfl fun _ _ T ⟨k16, _⟩ => ex_len (cons_ops k16 nil_ops) Try.underlying128, Ov rfl rfl fun _ _ T _ => ex_move rfl, trivial⟩ ?_
 intro a8 w8 d8 z8 t8 e8 q8
 refine wp_block ?_
 have s10_0 := ((q8 0 rfl).trans ((q4 0 rfl).trans s3_0))
 have s11_1 := ((q8 1 rfl).trans s7_1)
 have s12_16 : a8.eval (.tmp 16) = .slice Q L.length cq := e8.1
 have s13_17 : a8.eval (.tmp 17) = .int .i64 (L.length : Int) := e8.2.1
 have s14_18 : a8.eval (.tmp 18) = .int .i64 0 := e8.2.2.1
 have x15 := (Touch.trans (Touch.trans (Touch.trans x0 (Ext.touch t1)) (Ext.touch t4)) (Ext.touch t8))
 have H_16 := (ArenaAt.keep (ArenaAt.keep (ArenaAt.keep H t1) t4) t8)
 have HL_18 := (own_keep (own_keep (own_keep HL t1) t4) t8)
 refine wp_loopg (σ := Nat) (fun nQ aQ wQ => ∃ k : Nat, nQ = (L.length - k) ∧
  aQ.defers = [] ∧
  aQ.tmps.size = 82 ∧
  aQ.eval (.tmp 0) = .pointer (some ⟨b, 0, none⟩) ∧
  aQ.eval (.tmp 1) = .slice Q L.length cq ∧
  aQ.eval (.tmp 16) = .slice Q L.length cq ∧
  aQ.eval (.tmp 17) = .int .i64 (L.length : Int) ∧
  aQ.eval (.tmp 18) = .int .i64 (k : Int) ∧
  Touch (Fp) w wQ ∧
  ArenaAt wQ b Fp A most ∧
  wQ.ownsRow 0 133 2 (.slice Q L.length cq) (L.length) (flat lvs_ L) ∧
  (k ≤ L.length)) (fun nQ => nQ) _ ⟨0, rfl, d8, z8, s10_0, s11_1, s12_16, s13_17, (s14_18.trans (by first | rfl | (congr 1; omega) | (simp; omega) | simp)), x15, H_16, HL_18, Nat.zero_le _⟩ ?_
 rintro nQ9 a9 w9 ⟨k, hmu9, d9, z9, s9_0, s9_1, s9_16, s9_17, s9_18, x9, H_17, HL_19, hk⟩
 refine rgs mixed 82 [.eq (.bool (decide ((k : Int) < (L.length : Int))))] [[(18, none), (17, none)]] d9 z9 (by kernel_rfl) ⟨Ov rfl rfl fun _ _ T ⟨k18, k17, _⟩ => ex_lss (k18.trans s9_18) (k17.trans s9_17), trivial⟩ ?_
 intro a20 w20 d20 z20 t20 e20 q20
 refine wp_seq_k fun K21 hK21 => ?_
 by_cases c22 : (k : Int) < (L.length : Int)
 ·have y22 := decide_eq_true c22
  have s23_19 : a20.eval (.tmp 19) = .bool (decide ((k : Int) < (L.length : Int))) := e20.1
  refine wp_cond_true (s23_19.trans (by rw [y22])) ?_
  refine wp_skip ?_
  repeat (with_reducible refine block_norm ?_)
  refine hK21 _ _ ?_
  refine wp_seq_k fun K24 hK24 => ?_
  refine wp_block ?_
  obtain ⟨rw25, hrw25⟩ := own_addr HL (by omega)
  refine wp_seq ?_
  refine seq_begin ?_
  refine sp z20 rfl rfl (ex_move ((q20 18 rfl).trans s9_18)) ?_; intro a26 u26 z26
  refine sp z26 rfl rfl (ex_ixa Try.underlying128 (Try.sizeOf133 _) ((u26.past 16 rfl).trans ((q20 16 rfl).trans s9_16)) hrw25 ((u26.past 18 rfl).trans ((q20 18 rfl).trans s9_18)) (by omega) (by omega)) ?_; intro a27 u27 z27
  have HL_29 := (own_keep HL_19 t20)
  refine sp z27 rfl rfl (ex_loadAgg (cs := [.int .i64 ((at_ L l0 (k : Int)).1), .bool ((at_ L l0 (k : Int)).2)]) (u27.here _ rfl) (Try.isAgg133 _) (Try.sizeOf133 _) (own_ats (us := [.int .i64 ((at_ L l0 (k : Int)).1), .bool ((at_ L l0 (k : Int)).2)]) HL_29 hrw25 lvs2 (at_some' (d := l0) (by rfl) (by omega) (by omega)) 0 rfl)) ?_; intro a28 u28 z28
  refine salloc z28 rfl (zv_133 _) ?_; intro b30 w30 a30 t30 g30 hb30 u30 z30
  have no31 := no_new HL_29 g30
  have H_33 := (ArenaAt.keep H_17 t20)
  have o32 : ¬ Fp b30 := fun hQ => by have := ArenaAt.lt H_33 hQ; omega
  have x35 := (Touch.trans x9 (Ext.touch t20))
  have yb30_34 := Nat.le_trans (Touch.size x35) g30
  refine sp z30 rfl rfl (ex_assign ((u30.past 20 rfl).trans ((u28.past 20 rfl).trans ((u27.past 20 rfl).trans (u26.here _ rfl))))) ?_; intro a36 u36 z36
  refine sstore (cs := [.int .i64 0, .bool false]) (vs := [.int .i64 ((at_ L l0 (k : Int)).1), .bool ((at_ L l0 (k : Int)).2)]) (cs' := [.int .i64 ((at_ L l0 (k : Int)).1), .bool ((at_ L l0 (k : Int)).2)]) z36 rfl ((u36.past 7 rfl).trans (u30.here _ rfl)) ((u36.past 22 rfl).trans ((u30.past 22 rfl).trans (u28.here _ rfl))) hb30 (Try.sizeOf133 _) rfl rfl (by decide) (Nat.le_of_ble_eq_true rfl) rfl rfl ?_; intro w37 a37 t37 u37 z37
  have d38 := (u37.defs.trans (u36.defs.trans (u30.defs.trans (u28.defs.trans (u27.defs.trans (u26.defs.trans d20))))))
  refine seq_end ?_
  refine then_norm ?_
  have p42 := fr4 q20 u26.past u27.past u28.past
  have s41_0 := ((u37.past 0 rfl).trans ((u36.past 0 rfl).trans ((u30.past 0 rfl).trans ((p42 0 rfl).trans s9_0))))
  have s43_1 := ((u37.past 1 rfl).trans ((u36.past 1 rfl).trans ((u30.past 1 rfl).trans ((p42 1 rfl).trans s9_1))))
  have s44_16 := ((u37.past 16 rfl).trans ((u36.past 16 rfl).trans ((u30.past 16 rfl).trans ((p42 16 rfl).trans s9_16))))
  have s45_17 := ((u37.past 17 rfl).trans ((u36.past 17 rfl).trans ((u30.past 17 rfl).trans ((p42 17 rfl).trans s9_17))))
  have s46_18 := ((u37.past 18 rfl).trans ((u36.past 18 rfl).trans ((u30.past 18 rfl).trans ((p42 18 rfl).trans s9_18))))
  have x47 := (Touch.turn (Touch.trans x35 (Ext.touch t30)) t37 (Or.inr yb30_34))
  by_cases c48 : 0 < (k : Int)
  ·have y48 := decide_eq_true c48
   have hx := hL.at_ (i := (k : Int)) (by omega) (by omega)
   have kn49 : (decide (((at_ L l0 (k : Int)).1) < 0)) = false := decide_eq_false (by omega)
   have kn50 : (decide (104 ≤ ((at_ L l0 (k : Int)).1))) = false := decide_eq_false (by omega)
   have hst := hL.step (i := (k : Int) - 1) (by omega) (by omega)
   rw [show (k : Int) - 1 + 1 = k by omega] at hst
   have kn51 : (decide (((at_ L l0 (k : Int)).1) ≤ ((at_ L l0 ((k : Int) - 1)).1))) = false := decide_eq_false (by omega)
   have s52_7 : a30.eval (.tmp 7) = .pointer (some ⟨b30, 0, none⟩) := (u30.here _ rfl)
   have s53_7 := ((u37.past 7 rfl).trans ((u36.past 7 rfl).trans s52_7))
   have s54_6 : a36.eval (.tmp 6) = .int .i64 (k : Int) := (u36.here _ rfl)
   have s55_6 := ((u37.past 6 rfl).trans s54_6)
   have HL_56 := (own_touch (own_keep HL_29 t30) t37.touch (fun jQ hQ eQ => no31 jQ hQ eQ))
   refine rgs mixed 82 [.eq (.pointer (some ⟨b30, 0, none⟩)), .eq (.int .i64 ((at_ L l0 (k : Int)).1)), .eq (.bool (decide (((at_ L l0 (k : Int)).1) < 0))), .eq (.bool (decide (((at_ L l0 (k : Int)).1) < 0))), .eq (.pointer (some ⟨b30, 0, none⟩)), .eq (.int .i64 ((at_ L l0 (k : Int)).1)), .eq (.bool (decide (104 ≤ ((at_ L l0 (k : Int)).1)))), .eq (.bool (decide (104 ≤ ((at_ L l0 (k : Int)).1)))), .eq (.bool (decide (104 ≤ ((at_ L l0 (k : Int)).1)))), .eq (.int .i64 (k : Int)), .eq (.bool (decide (0 < (k : Int)))), .eq (.bool (decide (0 < (k : Int)))), .eq (.slice Q L.length cq), .eq (.int .i64 (k : Int)), .eq (.int .i64 ((k : Int) - 1)), .eq (.pointer (some ⟨rw25, Int.toNat ((k : Int) - 1) * 2, none⟩)), .eq (.pointer (some ⟨rw25, Int.toNat ((k : Int) - 1) * 2, none⟩)), .eq (.int .i64 ((at_ L l0 ((k : Int) - 1)).1)), .eq (.pointer (some ⟨b30, 0, none⟩)), .eq (.int .i64 ((at_ L l0 (k : Int)).1)), .eq (.bool (decide (((at_ L l0 (k : Int)).1) ≤ ((at_ L l0 ((k : Int) - 1)).1)))), .eq (.bool (decide (((at_ L l0 (k : Int)).1) ≤ ((at_ L l0 ((k : Int) - 1)).1)))), .eq (.bool (decide (((at_ L l0 (k : Int)).1) ≤ ((at_ L l0 ((k : Int) - 1)).1))))] [[(7, none)], [(23, some 0)], [(24, some 1)], [(25, some 2)], [(7, none), (26, some 3)], [(27, some 4), (26, some 3)], [(28, some 5), (26, some 3)], [(26, some 3), (29, some 6)], [(30, some 7)], [(6, none), (31, some 8)], [(32, some 9), (31, some 8)], [(33, some 10), (31, some 8)], [(1, none), (34, some 11)], [(6, none), (34, some 11)], [(36, some 13), (34, some 11)], [(35, some 12), (37, some 14), (34, some 11)], [(38, some 15), (34, some 11)], [(39, some 16), (34, some 11)], [(7, none), (34, some 11)], [(41, some 18), (34, some 11)], [(40, some 17), (42, some 19), (34, some 11)], [(34, some 11), (43, some 20), (31, some 8)], [(31, some 8), (44, some 21)]] d38 z37 (by kernel_rfl) ⟨Ov rfl rfl fun _ _ T ⟨k7, _⟩ => ex_fieldAddr (k7.trans s53_7) (fa_133_0 _ _ _),
    Ov rfl rfl fun _ _ T ⟨k23, _⟩ => ex_load k23 (Try.isAgg3 _) (cell_of (Ext.keep T.ext t37.here) rfl),
    Ov rfl rfl fun _ _ T ⟨k24, _⟩ => ex_lss k24 rfl,
    Ov rfl rfl fun _ _ T ⟨k25, _⟩ => ex_move k25,
    Oy rfl rfl rfl fun _ _ T ⟨k7, k26, _⟩ => ⟨(k26.trans (by rw [kn49])), ex_fieldAddr (k7.trans s53_7) (fa_133_0 _ _ _)⟩,
    Oy rfl rfl rfl fun _ _ T ⟨k27, k26, _⟩ => ⟨(k26.trans (by rw [kn49])), ex_load k27 (Try.isAgg3 _) (cell_of (Ext.keep T.ext t37.here) rfl)⟩,
    Oy rfl rfl rfl fun _ _ T ⟨k28, k26, _⟩ => ⟨(k26.trans (by rw [kn49])), ex_geq k28 rfl⟩,
    Ov rfl rfl fun _ _ T ⟨k26, k29, _⟩ => ex_pick_f (k26.trans (by rw [kn49])) k29,
    Ov rfl rfl fun _ _ T ⟨k30, _⟩ => ex_move k30,
    Oy rfl rfl rfl fun _ _ T ⟨k6, k31, _⟩ => ⟨(k31.trans (by rw [kn50])), ex_move (k6.trans s55_6)⟩,
    Oy rfl rfl rfl fun _ _ T ⟨k32, k31, _⟩ => ⟨(k31.trans (by rw [kn50])), ex_gtr k32 rfl⟩,
    Oy rfl rfl rfl fun _ _ T ⟨k33, k31, _⟩ => ⟨(k31.trans (by rw [kn50])), ex_move k33⟩,
    Oy rfl rfl rfl fun _ _ T ⟨k1, k34, _⟩ => ⟨(k34.trans (by rw [y48])), ex_move (k1.trans s43_1)⟩,
    Oy rfl rfl rfl fun _ _ T ⟨k6, k34, _⟩ => ⟨(k34.trans (by rw [y48])), ex_move (k6.trans s55_6)⟩,
    Oy rfl rfl rfl fun _ _ T ⟨k36, k34, _⟩ => ⟨(k34.trans (by rw [y48])), ex_sub64 k36 rfl (by omega)⟩,
    Oy rfl rfl rfl fun _ _ T ⟨k35, k37, k34, _⟩ => ⟨(k34.trans (by rw [y48])), ex_ixa Try.underlying128 (Try.sizeOf133 _) k35 hrw25 k37 (by omega) (by omega)⟩,
    Oy rfl rfl rfl fun _ _ T ⟨k38, k34, _⟩ => ⟨(k34.trans (by rw [y48])), ex_fieldAddr k38 (fa_133_0 _ _ _)⟩,
    Oy rfl rfl rfl fun _ _ T ⟨k39, k34, _⟩ => ⟨(k34.trans (by rw [y48])), ex_load k39 (Try.isAgg3 _) (own_at (own_keep HL_56 T.ext) hrw25 lvs2 (at_some' (d := l0) (by rfl) (by omega) (by omega)) 0 rfl)⟩,
    Oy rfl rfl rfl fun _ _ T ⟨k7, k34, _⟩ => ⟨(k34.trans (by rw [y48])), ex_fieldAddr (k7.trans s53_7) (fa_133_0 _ _ _)⟩,
    Oy rfl rfl rfl fun _ _ T ⟨k41, k34, _⟩ => ⟨(k34.trans (by rw [y48])), ex_load k41 (Try.isAgg3 _) (cell_of (Ext.keep T.ext t37.here) rfl)⟩,
    Oy rfl rfl rfl fun _ _ T ⟨k40, k42, k34, _⟩ => ⟨(k34.trans (by rw [y48])), ex_geq k40 k42⟩,
    Oy rfl rfl rfl fun _ _ T ⟨k34, k43, k31, _⟩ => ⟨(k31.trans (by rw [kn50])), ex_pick_t (k34.trans (by rw [y48])) k43⟩,
    Ov rfl rfl fun _ _ T ⟨k31, k44, _⟩ => ex_pick_f (k31.trans (by rw [kn50])) k44,
    trivial⟩ ?_
   intro a57 w57 d57 z57 t57 e57 q57
   have s58_45 : a57.eval (.tmp 45) = .bool (decide (((at_ L l0 (k : Int)).1) ≤ ((at_ L l0 ((k : Int) - 1)).1))) := e57.2.2.2.2.2.2.2.2.2.2.2.2.2.2.2.2.2.2.2.2.2.2.1
   refine wp_cond_false (s58_45.trans (by rw [kn51])) ?_
   refine wp_skip ?_
   repeat (with_reducible refine block_norm ?_)
   refine hK24 _ _ ?_
   have s59_18 := ((q57 18 rfl).trans s46_18)
   refine rg mixed 82 [.eq (.int .i64 ((k : Int) + 1)), .eq (.int .i64 ((k : Int) + 1))] [[(18, none)], [(46, some 0)]] d57 z57 (by kernel_rfl) ⟨Ov rfl rfl fun _ _ T ⟨k18, _⟩ => ex_add64 (k18.trans s59_18) rfl (by omega), Ov rfl rfl fun _ _ T ⟨k46, _⟩ => ex_move k46, trivial⟩ ?_
   intro a60 w60 d60 z60 t60 e60 q60
   repeat (with_reducible refine block_norm ?_)
   have s61_0 := ((q60 0 rfl).trans ((q57 0 rfl).trans s41_0))
   have s62_1 := ((q60 1 rfl).trans ((q57 1 rfl).trans s43_1))
   have s63_16 := ((q60 16 rfl).trans ((q57 16 rfl).trans s44_16))
   have s64_17 := ((q60 17 rfl).trans ((q57 17 rfl).trans s45_17))
   have s65_18 : a60.eval (.tmp 18) = .int .i64 ((k : Int) + 1) := e60.2.1
   have x66 := (Touch.trans (Touch.trans x47 (Ext.touch t57)) (Ext.touch t60))
   have H_67 := (ArenaAt.keep (ArenaAt.keep (ArenaAt.turn (ArenaAt.keep H_33 t30) t37 o32) t57) t60)
   have HL_68 := (own_keep (own_keep HL_56 t57) t60)
   refine then_norm ?_
   refine ⟨_, ⟨k + 1, rfl, d60, z60, s61_0, s62_1, s63_16, s64_17, (s65_18.trans (by first | rfl | (congr 1; omega) | (simp; omega) | simp)), x66, H_67, HL_68, by omega⟩, ?_⟩; (show _ < _); rw [hmu9]; exact by omega
  ·have y48 := decide_eq_false c48
   have hx := hL.at_ (i := (k : Int)) (by omega) (by omega)
   have kn69 : (decide (((at_ L l0 (k : Int)).1) < 0)) = false := decide_eq_false (by omega)
   have kn70 : (decide (104 ≤ ((at_ L l0 (k : Int)).1))) = false := decide_eq_false (by omega)
   have s71_7 : a30.eval (.tmp 7) = .pointer (some ⟨b30, 0, none⟩) := (u30.here _ rfl)
   have s72_7 := ((u37.past 7 rfl).trans ((u36.past 7 rfl).trans s71_7))
   have s73_6 : a36.eval (.tmp 6) = .int .i64 (k : Int) := (u36.here _ rfl)
   have s74_6 := ((u37.past 6 rfl).trans s73_6)
   refine rgs mixed 82 [.eq (.pointer (some ⟨b30, 0, none⟩)), .eq (.int .i64 ((at_ L l0 (k : Int)).1)), .eq (.bool (decide (((at_ L l0 (k : Int)).1) < 0))), .eq (.bool (decide (((at_ L l0 (k : Int)).1) < 0))), .eq (.pointer (some ⟨b30, 0, none⟩)), .eq (.int .i64 ((at_ L l0 (k : Int)).1)), .eq (.bool (decide (104 ≤ ((at_ L l0 (k : Int)).1)))), .eq (.bool (decide (104 ≤ ((at_ L l0 (k : Int)).1)))), .eq (.bool (decide (104 ≤ ((at_ L l0 (k : Int)).1)))), .eq (.int .i64 (k : Int)), .eq (.bool (decide (0 < (k : Int)))), .eq (.bool (decide (0 < (k : Int)))), .eq undef, .eq undef, .eq undef, .eq undef, .eq undef, .eq undef, .eq undef, .eq undef, .eq undef, .eq (.bool false), .eq (.bool false)] [[(7, none)], [(23, some 0)], [(24, some 1)], [(25, some 2)], [(7, none), (26, some 3)], [(27, some 4), (26, some 3)], [(28, some 5), (26, some 3)], [(26, some 3), (29, some 6)], [(30, some 7)], [(6, none), (31, some 8)], [(32, some 9), (31, some 8)], [(33, some 10), (31, some 8)], [(1, none), (34, some 11)], [(6, none), (34, some 11)], [(36, some 13), (34, some 11)], [(35, some 12), (37, some 14), (34, some 11)], [(38, some 15), (34, some 11)], [(39, some 16), (34, some 11)], [(7, none), (34, some 11)], [(41, some 18), (34, some 11)], [(40, some 17), (42, some 19), (34, some 11)], [(34, some 11), (43, some 20), (31, some 8)], [(31, some 8), (44, some 21)]] d38 z37 (by kernel_rfl) ⟨Ov rfl rfl fun _ _ T ⟨k7, _⟩ => ex_fieldAddr (k7.trans s72_7) (fa_133_0 _ _ _),
    Ov rfl rfl fun _ _ T ⟨k23, _⟩ => ex_load k23 (Try.isAgg3 _) (cell_of (Ext.keep T.ext t37.here) rfl),
    Ov rfl rfl fun _ _ T ⟨k24, _⟩ => ex_lss k24 rfl,
    Ov rfl rfl fun _ _ T ⟨k25, _⟩ => ex_move k25,
    Oy rfl rfl rfl fun _ _ T ⟨k7, k26, _⟩ => ⟨(k26.trans (by rw [kn69])), ex_fieldAddr (k7.trans s72_7) (fa_133_0 _ _ _)⟩,
    Oy rfl rfl rfl fun _ _ T ⟨k27, k26, _⟩ => ⟨(k26.trans (by rw [kn69])), ex_load k27 (Try.isAgg3 _) (cell_of (Ext.keep T.ext t37.here) rfl)⟩,
    Oy rfl rfl rfl fun _ _ T ⟨k28, k26, _⟩ => ⟨(k26.trans (by rw [kn69])), ex_geq k28 rfl⟩,
    Ov rfl rfl fun _ _ T ⟨k26, k29, _⟩ => ex_pick_f (k26.trans (by rw [kn69])) k29,
    Ov rfl rfl fun _ _ T ⟨k30, _⟩ => ex_move k30,
    Oy rfl rfl rfl fun _ _ T ⟨k6, k31, _⟩ => ⟨(k31.trans (by rw [kn70])), ex_move (k6.trans s74_6)⟩,
    Oy rfl rfl rfl fun _ _ T ⟨k32, k31, _⟩ => ⟨(k31.trans (by rw [kn70])), ex_gtr k32 rfl⟩,
    Oy rfl rfl rfl fun _ _ T ⟨k33, k31, _⟩ => ⟨(k31.trans (by rw [kn70])), ex_move k33⟩,
    On rfl rfl rfl fun _ _ ⟨k1, k34, _⟩ => .inl (k34.trans (by rw [y48]; rfl)),
    On rfl rfl rfl fun _ _ ⟨k6, k34, _⟩ => .inl (k34.trans (by rw [y48]; rfl)),
    On rfl rfl rfl fun _ _ ⟨k36, k34, _⟩ => .inl (k34.trans (by rw [y48]; rfl)),
    On rfl rfl rfl fun _ _ ⟨k35, k37, k34, _⟩ => .inl (k34.trans (by rw [y48]; rfl)),
    On rfl rfl rfl fun _ _ ⟨k38, k34, _⟩ => .inl (k34.trans (by rw [y48]; rfl)),
    On rfl rfl rfl fun _ _ ⟨k39, k34, _⟩ => .inl (k34.trans (by rw [y48]; rfl)),
    On rfl rfl rfl fun _ _ ⟨k7, k34, _⟩ => .inl (k34.trans (by rw [y48]; rfl)),
    On rfl rfl rfl fun _ _ ⟨k41, k34, _⟩ => .inl (k34.trans (by rw [y48]; rfl)),
    On rfl rfl rfl fun _ _ ⟨k40, k42, k34, _⟩ => .inl (k34.trans (by rw [y48]; rfl)),
    Oy rfl rfl rfl fun _ _ T ⟨k34, k43, k31, _⟩ => ⟨(k31.trans (by rw [kn70])), ex_pick_f (k34.trans (by rw [y48])) rfl⟩,
    Ov rfl rfl fun _ _ T ⟨k31, k44, _⟩ => ex_pick_f (k31.trans (by rw [kn70])) k44,
    trivial⟩ ?_
   intro a75 w75 d75 z75 t75 e75 q75
   have s76_45 : a75.eval (.tmp 45) = .bool false := e75.2.2.2.2.2.2.2.2.2.2.2.2.2.2.2.2.2.2.2.2.2.2.1
   refine wp_cond_false s76_45 ?_
   refine wp_skip ?_
   repeat (with_reducible refine block_norm ?_)
   refine hK24 _ _ ?_
   have s77_18 := ((q75 18 rfl).trans s46_18)
   refine rg mixed 82 [.eq (.int .i64 ((k : Int) + 1)), .eq (.int .i64 ((k : Int) + 1))] [[(18, none)], [(46, some 0)]] d75 z75 (by kernel_rfl) ⟨Ov rfl rfl fun _ _ T ⟨k18, _⟩ => ex_add64 (k18.trans s77_18) rfl (by omega), Ov rfl rfl fun _ _ T ⟨k46, _⟩ => ex_move k46, trivial⟩ ?_
   intro a78 w78 d78 z78 t78 e78 q78
   repeat (with_reducible refine block_norm ?_)
   have s79_0 := ((q78 0 rfl).trans ((q75 0 rfl).trans s41_0))
   have s80_1 := ((q78 1 rfl).trans ((q75 1 rfl).trans s43_1))
   have s81_16 := ((q78 16 rfl).trans ((q75 16 rfl).trans s44_16))
   have s82_17 := ((q78 17 rfl).trans ((q75 17 rfl).trans s45_17))
   have s83_18 : a78.eval (.tmp 18) = .int .i64 ((k : Int) + 1) := e78.2.1
   have x84 := (Touch.trans (Touch.trans x47 (Ext.touch t75)) (Ext.touch t78))
   have H_85 := (ArenaAt.keep (ArenaAt.keep (ArenaAt.turn (ArenaAt.keep H_33 t30) t37 o32) t75) t78)
   have HL_86 := (own_keep (own_keep (own_touch (own_keep HL_29 t30) t37.touch (fun jQ hQ eQ => no31 jQ hQ eQ)) t75) t78)
   refine then_norm ?_
   refine ⟨_, ⟨k + 1, rfl, d78, z78, s79_0, s80_1, s81_16, s82_17, (s83_18.trans (by first | rfl | (congr 1; omega) | (simp; omega) | simp)), x84, H_85, HL_86, by omega⟩, ?_⟩; (show _ < _); rw [hmu9]; exact by omega
 ·have y22 := decide_eq_false c22
  have s87_19 : a20.eval (.tmp 19) = .bool (decide ((k : Int) < (L.length : Int))) := e20.1
  refine wp_cond_false (s87_19.trans (by rw [y22])) ?_
  refine wp_exit ?_
  repeat (first | (with_reducible refine then_exit ?_) | (with_reducible refine block_here ?_) | (with_reducible refine block_past rfl ?_))
  refine hK6 _ _ ?_
  refine wp_seq ?_
  refine seq_begin ?_
  refine sp z20 rfl rfl (ex_move ((q20 0 rfl).trans s9_0)) ?_; intro a88 u88 z88
  have H_90 := (ArenaAt.keep H_17 t20)
  refine scx z88 rfl rfl (exl_call Try.func16 rfl rfl (cons_ops (u88.here _ rfl) nil_ops)) (a_len H_90) ?_; intro w89 a89 t89 u89 z89
  refine sp z89 rfl rfl (ex_assign (u89.here _ rfl)) ?_; intro a91 u91 z91
  have d92 := (u91.defs.trans (u89.defs.trans (u88.defs.trans d20)))
  refine seq_end ?_
  refine then_norm ?_
  refine rgs mixed 82 [.eq (.int .i64 1)] [[]] d92 z91 (by kernel_rfl) ⟨Ov rfl rfl fun _ _ T _ => ex_assign rfl, trivial⟩ ?_
  intro a93 w93 d93 z93 t93 e93 q93
  refine wp_seq_k fun K94 hK94 => ?_
  have p96 := fr4 q20 u88.past u89.past u91.past
  have s95_1 := ((q93 1 rfl).trans ((p96 1 rfl).trans s9_1))
  refine rgs mixed 82 [.eq (.slice Q L.length cq), .eq (.int .i64 (L.length : Int)), .eq (.int .i64 ((L.length : Int) - 1)), .eq (.int .i64 ((L.length : Int) - 1))] [[(1, none)], [(49, some 0)], [(50, some 1)], [(51, some 2)]] d93 z93 (by kernel_rfl) ⟨Ov rfl rfl fun _ _ T ⟨k1, _⟩ => ex_move (k1.trans s95_1),
   Ov rfl rfl fun _ _ T ⟨k49, _⟩ => ex_len (cons_ops k49 nil_ops) Try.underlying128,
   Ov rfl rfl fun _ _ T ⟨k50, _⟩ => ex_sub64 k50 rfl (by omega),
   Ov rfl rfl fun _ _ T ⟨k51, _⟩ => ex_assign k51,
   trivial⟩ ?_
  intro a97 w97 d97 z97 t97 e97 q97
  refine wp_block ?_
  have H_98 := (ArenaAt.keep (ArenaAt.keep (ArenaAt.keep H_90 t89) t93) t97)
  have s100_0 := ((q97 0 rfl).trans ((q93 0 rfl).trans ((p96 0 rfl).trans s9_0)))
  have s101_1 := ((q97 1 rfl).trans s95_1)
  have s102_8 : a91.eval (.tmp 8) = .int .i64 (A.length : Int) := (u91.here _ rfl)
  have s103_8 := ((q97 8 rfl).trans ((q93 8 rfl).trans s102_8))
  have s104_9 : a93.eval (.tmp 9) = .int .i64 1 := e93.1
  have s105_9 := ((q97 9 rfl).trans s104_9)
  have s106_10 : a97.eval (.tmp 10) = .int .i64 ((L.length : Int) - 1) := e97.2.2.2.1
  have x107 := (Touch.trans (Touch.trans (Touch.trans (Touch.trans x9 (Ext.touch t20)) (Ext.touch t89)) (Ext.touch t93)) (Ext.touch t97))
  have HL_108 := (own_keep (own_keep (own_keep (own_keep HL_19 t20) t89) t93) t97)
  refine wp_loopg (σ := Nat) (fun nQ aQ wQ => ∃ i : Int, ∃ A1 : List N3, ∃ Fp1 : Nat → Prop, ∃ r : Int, nQ = ((i + 1).toNat) ∧
   aQ.defers = [] ∧
   aQ.tmps.size = 82 ∧
   aQ.eval (.tmp 0) = .pointer (some ⟨b, 0, none⟩) ∧
   aQ.eval (.tmp 1) = .slice Q L.length cq ∧
   aQ.eval (.tmp 8) = .int .i64 (A.length : Int) ∧
   aQ.eval (.tmp 9) = .int .i64 r ∧
   aQ.eval (.tmp 10) = .int .i64 i ∧
   Touch (Fp) w wQ ∧
   wQ.ownsRow 0 133 2 (.slice Q L.length cq) (L.length) (flat lvs_ L) ∧
   ArenaAt wQ b Fp1 A1 most ∧
   (-1 ≤ i) ∧
   (i < L.length) ∧
   (CubeInv A A1 most L i r) ∧
   (∀ j, Fp1 j → (Fp) j ∨ w.heap.size ≤ j) ∧
   (∀ j, (Value.slice Q L.length cq).ownBlock = some j → ¬ Fp1 j)) (fun nQ => nQ) _ ⟨(L.length : Int) - 1, A, Fp, 1, rfl, d97, z97, s100_0, s101_1, s103_8, (s105_9.trans (by first | rfl | (congr 1; omega) | (simp; omega) | simp)), (s106_10.trans (by first | rfl | (congr 1; omega) | (simp; omega) | simp)), x107, HL_108, H_98, by omega, by omega, cube_start hW hm hL, fun jQ hQ => Or.inl hQ, hout⟩ ?_
  rintro nQ99 a99 w99 ⟨i, A1, Fp1, r, hmu99, d99, z99, s99_0, s99_1, s99_8, s99_9, s99_10, x99, HL_109, f110, hi0, hi1, hI, hin, hout1⟩
  have len2 := hI.wf.len; have room1 := hI.room
  refine wp_seq_k fun K111 hK111 => ?_
  refine rgs mixed 82 [.eq (.int .i64 i), .eq (.bool (decide (0 ≤ i)))] [[(10, none)], [(52, some 0)]] d99 z99 (by kernel_rfl) ⟨Ov rfl rfl fun _ _ T ⟨k10, _⟩ => ex_move (k10.trans s99_10), Ov rfl rfl fun _ _ T ⟨k52, _⟩ => ex_geq k52 rfl, trivial⟩ ?_
  intro a112 w112 d112 z112 t112 e112 q112
  by_cases c113 : 0 ≤ i
  ·have y113 := decide_eq_true c113
   have s114_53 : a112.eval (.tmp 53) = .bool (decide (0 ≤ i)) := e112.2.1
   refine wp_cond_true (s114_53.trans (by rw [y113])) ?_
   refine wp_skip ?_
   repeat (with_reducible refine block_norm ?_)
   refine hK111 _ _ ?_
   refine wp_seq_k fun K115 hK115 => ?_
   refine wp_block ?_
   have s116_9 := ((q112 9 rfl).trans s99_9)
   refine rgs mixed 82 [.eq (.int .i64 r), .eq (.int .i64 r), .eq (.int .i64 0)] [[(9, none)], [(56, some 0)], []] d112 z112 (by kernel_rfl) ⟨Ov rfl rfl fun _ _ T ⟨k9, _⟩ => ex_move (k9.trans s116_9), Ov rfl rfl fun _ _ T ⟨k56, _⟩ => ex_assign k56, Ov rfl rfl fun _ _ T _ => ex_assign rfl, trivial⟩ ?_
   intro a117 w117 d117 z117 t117 e117 q117
   refine wp_seq_k fun K118 hK118 => ?_
   obtain ⟨rw119, hrw119⟩ := own_addr HL (by omega)
   have s120_1 := ((q117 1 rfl).trans ((q112 1 rfl).trans s99_1))
   have s121_10 := ((q117 10 rfl).trans ((q112 10 rfl).trans s99_10))
   have HL_122 := (own_keep (own_keep HL_109 t112) t117)
   refine rgs mixed 82 [.eq (.slice Q L.length cq), .eq (.int .i64 i), .eq (.pointer (some ⟨rw119, Int.toNat i * 2, none⟩)), .eq (.pointer (some ⟨rw119, Int.toNat i * 2 + 1, none⟩)), .eq (.bool ((at_ L l0 i).2))] [[(1, none)], [(10, none)], [(57, some 0), (58, some 1)], [(59, some 2)], [(60, some 3)]] d117 z117 (by kernel_rfl) ⟨Ov rfl rfl fun _ _ T ⟨k1, _⟩ => ex_move (k1.trans s120_1),
    Ov rfl rfl fun _ _ T ⟨k10, _⟩ => ex_move (k10.trans s121_10),
    Ov rfl rfl fun _ _ T ⟨k57, k58, _⟩ => ex_ixa Try.underlying128 (Try.sizeOf133 _) k57 hrw119 k58 (by omega) (by omega),
    Ov rfl rfl fun _ _ T ⟨k59, _⟩ => ex_fieldAddr k59 (fa_133_1 _ _ _),
    Ov rfl rfl fun _ _ T ⟨k60, _⟩ => ex_load k60 (Try.isAgg4 _) (own_at (own_keep HL_122 T.ext) hrw119 lvs2 (at_some' (d := l0) (by rfl) (by omega) (by omega)) 1 rfl),
    trivial⟩ ?_
   intro a123 w123 d123 z123 t123 e123 q123
   have s124_0 := ((q123 0 rfl).trans ((q117 0 rfl).trans ((q112 0 rfl).trans s99_0)))
   have s125_8 := ((q123 8 rfl).trans ((q117 8 rfl).trans ((q112 8 rfl).trans s99_8)))
   have f110_126 := (ArenaAt.keep (ArenaAt.keep (ArenaAt.keep f110 t112) t117) t123)
   have x127 := (Touch.trans (Touch.trans (Touch.trans x99 (Ext.touch t112)) (Ext.touch t117)) (Ext.touch t123))
   rcases Bool.eq_false_or_eq_true ((at_ L l0 i).2) with y128 | y128
   ·have c128 := y128
    have s129_61 : a123.eval (.tmp 61) = .bool ((at_ L l0 i).2) := e123.2.2.2.2.1
    refine wp_cond_true (s129_61.trans (by rw [y128])) ?_
    have s130_9 := ((q123 9 rfl).trans ((q117 9 rfl).trans s116_9))
    refine rg mixed 82 [.eq (.int .i64 r), .eq (.int .i64 0), .eq (.int .i64 r)] [[(9, none)], [], [(62, some 0)]] d123 z123 (by kernel_rfl) ⟨Ov rfl rfl fun _ _ T ⟨k9, _⟩ => ex_move (k9.trans s130_9), Ov rfl rfl fun _ _ T _ => ex_assign rfl, Ov rfl rfl fun _ _ T ⟨k62, _⟩ => ex_assign k62, trivial⟩ ?_
    intro a131 w131 d131 z131 t131 e131 q131
    repeat (with_reducible refine block_norm ?_)
    refine hK118 _ _ ?_
    refine rgs mixed 82 [.eq (.int .i64 0)] [[]] d131 z131 (by kernel_rfl) ⟨Ov rfl rfl fun _ _ T _ => ex_assign rfl, trivial⟩ ?_
    intro a132 w132 d132 z132 t132 e132 q132
    refine wp_seq ?_
    refine seq_begin ?_
    refine sp z132 rfl rfl (ex_move ((q132 0 rfl).trans ((q131 0 rfl).trans s124_0))) ?_; intro a133 u133 z133
    refine sp z133 rfl rfl (ex_move ((u133.past 1 rfl).trans ((q132 1 rfl).trans ((q131 1 rfl).trans ((q123 1 rfl).trans s120_1))))) ?_; intro a134 u134 z134
    refine sp z134 rfl rfl (ex_move ((u134.past 10 rfl).trans ((u133.past 10 rfl).trans ((q132 10 rfl).trans ((q131 10 rfl).trans ((q123 10 rfl).trans s121_10)))))) ?_; intro a135 u135 z135
    refine sp z135 rfl rfl (ex_ixa Try.underlying128 (Try.sizeOf133 _) ((u135.past 65 rfl).trans (u134.here _ rfl)) hrw119 (u135.here _ rfl) (by omega) (by omega)) ?_; intro a136 u136 z136
    refine sp z136 rfl rfl (ex_fieldAddr (u136.here _ rfl) (fa_133_0 _ _ _)) ?_; intro a137 u137 z137
    have HL_139 := (own_keep (own_keep (own_keep HL_122 t123) t131) t132)
    refine sp z137 rfl rfl (ex_load (u137.here _ rfl) (Try.isAgg3 _) (own_at HL_139 hrw119 lvs2 (at_some' (d := l0) (by rfl) (by omega) (by omega)) 0 rfl)) ?_; intro a138 u138 z138
    have p141 := fr4 q132 u133.past u134.past u135.past
    refine sp z138 rfl rfl (ex_move ((u138.past 11 rfl).trans ((u137.past 11 rfl).trans ((u136.past 11 rfl).trans ((p141 11 rfl).trans e131.2.1))))) ?_; intro a140 u140 z140
    have p143 := fr4 u136.past u137.past u138.past u140.past
    refine sp z140 rfl rfl (ex_move ((p143 12 rfl).trans ((p141 12 rfl).trans e131.2.2.1))) ?_; intro a142 u142 z142
    have f110_145 := (ArenaAt.keep (ArenaAt.keep f110_126 t131) t132)
    have RM := cube_step (lo := 0) (hi := r) hI hL (by omega) hi1 (by rw [y128]; rfl) (by rw [y128]; rfl)
    have RB := cube_bad (lo := 0) (hi := r) hI (by omega) hi1 (by rw [y128]; rfl) (by rw [y128]; rfl)
    refine sc z142 rfl rfl (exl_call Try.func102 rfl rfl (cons_ops ((u142.past 64 rfl).trans ((p143 64 rfl).trans ((u135.past 64 rfl).trans ((u134.past 64 rfl).trans (u133.here _ rfl))))) (cons_ops ((u142.past 69 rfl).trans ((u140.past 69 rfl).trans (u138.here _ rfl))) (cons_ops ((u142.past 70 rfl).trans (u140.here _ rfl)) (cons_ops (u142.here _ rfl) nil_ops))))) (c_mk f110_145 _ _ _ (by omega) (by omega)) ?_
    rintro e144 w144 ⟨Fp144, he144, H144, m144⟩; refine ⟨_, he144, ?_⟩; intro a144 u144 z144
    have o146 := fun jQ hQ => Mut.out m144 (own_lt HL_139 hQ) (hout1 jQ hQ)
    have x147 := (Touch.trans (Touch.trans x127 (Ext.touch t131)) (Ext.touch t132))
    have i148 := Mut.inF m144 x147 hin
    refine sp z144 rfl rfl (ex_move (u144.here _ rfl)) ?_; intro a149 u149 z149
    refine sp z149 rfl rfl (ex_extract (u149.here _ rfl) rfl) ?_; intro a150 u150 z150
    refine sp z150 rfl rfl (ex_extract ((u150.past 63 rfl).trans (u149.here _ rfl)) rfl) ?_; intro a151 u151 z151
    refine sp z151 rfl rfl (ex_assign ((u151.past 73 rfl).trans (u150.here _ rfl))) ?_; intro a152 u152 z152
    refine sp z152 rfl rfl (ex_assign ((u152.past 74 rfl).trans (u151.here _ rfl))) ?_; intro a153 u153 z153
    have d154 := (u153.defs.trans (u152.defs.trans (u151.defs.trans (u150.defs.trans (u149.defs.trans (u144.defs.trans (u142.defs.trans (u140.defs.trans (u138.defs.trans (u137.defs.trans (u136.defs.trans (u135.defs.trans (u134.defs.trans (u133.defs.trans d132))))))))))))))
    refine seq_end ?_
    refine then_norm ?_
    have s155_13 : a153.eval (.tmp 13) = .int .i64 ((mkF A1 most ((at_ L l0 i).1, 0, r)).2.2) := (u153.here _ rfl)
    refine rgs mixed 82 [.eq (.int .i64 ((mkF A1 most ((at_ L l0 i).1, 0, r)).2.2)), .eq (.bool (decide (((mkF A1 most ((at_ L l0 i).1, 0, r)).2.2) ≠ 0)))] [[(13, none)], [(75, some 0)]] d154 z153 (by kernel_rfl) ⟨Ov rfl rfl fun _ _ T ⟨k13, _⟩ => ex_move (k13.trans s155_13), Ov rfl rfl fun _ _ T ⟨k75, _⟩ => ex_neq k75 rfl, trivial⟩ ?_
    intro a156 w156 d156 z156 t156 e156 q156
    have p158 := fr4 u142.past u144.past u149.past u150.past
    have p159 := fr4 u151.past u152.past u153.past q156
    have s157_0 := ((p159 0 rfl).trans ((p158 0 rfl).trans ((p143 0 rfl).trans ((p141 0 rfl).trans ((q131 0 rfl).trans s124_0)))))
    have s160_1 := ((p159 1 rfl).trans ((p158 1 rfl).trans ((p143 1 rfl).trans ((p141 1 rfl).trans ((q131 1 rfl).trans ((q123 1 rfl).trans s120_1))))))
    have s161_8 := ((p159 8 rfl).trans ((p158 8 rfl).trans ((p143 8 rfl).trans ((p141 8 rfl).trans ((q131 8 rfl).trans s125_8)))))
    have s162_10 := ((p159 10 rfl).trans ((p158 10 rfl).trans ((p143 10 rfl).trans ((p141 10 rfl).trans ((q131 10 rfl).trans ((q123 10 rfl).trans s121_10))))))
    have x163 := (Touch.trans (Touch.mut x147 m144 hin) (Ext.touch t156))
    by_cases c164 : ((mkF A1 most ((at_ L l0 i).1, 0, r)).2.2) ≠ 0
    ·have y164 := decide_eq_true c164
     have s165_76 : a156.eval (.tmp 76) = .bool (decide (((mkF A1 most ((at_ L l0 i).1, 0, r)).2.2) ≠ 0)) := e156.2.1
     refine wp_cond_true (s165_76.trans (by rw [y164])) ?_
     have lenm := RM.wf.len; have roomm := RM.room
     refine wp_seq ?_
     refine seq_begin ?_
     refine sp z156 rfl rfl (ex_move s157_0) ?_; intro a166 u166 z166
     refine sp z166 rfl rfl (ex_move ((u166.past 8 rfl).trans s161_8)) ?_; intro a167 u167 z167
     have H144_169 := (ArenaAt.keep H144 t156)
     refine sc z167 rfl rfl (exl_call Try.func101 rfl rfl (cons_ops ((u167.past 77 rfl).trans (u166.here _ rfl)) (cons_ops (u167.here _ rfl) nil_ops))) (c_cut H144_169 (A.length : Int) (by omega) (by omega) RM.wf.nodup) ?_
     rintro e168 w168 ⟨he168, H168, m168⟩; refine ⟨_, he168, ?_⟩; intro a168 u168 z168
     have HL_170 := (own_keep (Mut.own m144 HL_139 hout1) t156)
     have o171 := fun jQ hQ => Mut.out m168 (own_lt HL_170 hQ) (o146 jQ hQ)
     have i172 := Mut.inF m168 x163 i148
     have d173 := (u168.defs.trans (u167.defs.trans (u166.defs.trans d156)))
     refine seq_end ?_
     refine then_norm ?_
     have s174_13 := ((u168.past 13 rfl).trans ((u167.past 13 rfl).trans ((u166.past 13 rfl).trans ((q156 13 rfl).trans s155_13))))
     refine rgs mixed 82 [.eq (.int .i64 ((mkF A1 most ((at_ L l0 i).1, 0, r)).2.2)), .eq (.int .i64 0), .eq (.int .i64 ((mkF A1 most ((at_ L l0 i).1, 0, r)).2.2))] [[(13, none)], [], [(80, some 0)]] d173 z168 (by kernel_rfl) ⟨Ov rfl rfl fun _ _ T ⟨k13, _⟩ => ex_move (k13.trans s174_13), Ov rfl rfl fun _ _ T _ => ex_assign rfl, Ov rfl rfl fun _ _ T ⟨k80, _⟩ => ex_assign k80, trivial⟩ ?_
     intro a175 w175 d175 z175 t175 e175 q175
     refine wp_ret ?_
     have s176_4 : a175.eval (.tmp 4) = .int .i64 0 := e175.2.1
     have s177_5 : a175.eval (.tmp 5) = .int .i64 ((mkF A1 most ((at_ L l0 i).1, 0, r)).2.2) := e175.2.2.1
     repeat (first | (with_reducible refine then_ret ?_) | (with_reducible refine block_ret ?_))
     refine rett (rs := [.tmp 4, .tmp 5]) (vs := [.int .i64 0, .int .i64 ((mkF A1 most ((at_ L l0 i).1, 0, r)).2.2)]) Try.results56 ⟨s176_4, ⟨s177_5, trivial⟩⟩ (by simp) d175 ?_
     have et := take_pre (hI.pre.trans RM.pre) hl2 (n := (A.length : Int)) rfl
     have H168_178 := (ArenaAt.keep H168 t175)
     have HH := H168_178
     rw [et] at HH
     have x179 := (Touch.trans (Touch.mut x163 m168 i172) (Ext.touch t175))
     have hc := RM.ok.elim (fun hQ => absurd hQ.1 c164) (fun hQ => hQ)
     exact ⟨_, _, _, _, rfl, HH, ⟨x179, i172⟩, ⟨hW, List.prefix_refl _, hm, .inr hc⟩, fun _ => ⟨rfl, rfl⟩, fun hn => by subst hn; simp at hi1; omega, (RB c164).symm⟩
    ·have y164 := decide_eq_false c164
     have s180_76 : a156.eval (.tmp 76) = .bool (decide (((mkF A1 most ((at_ L l0 i).1, 0, r)).2.2) ≠ 0)) := e156.2.1
     refine wp_cond_false (s180_76.trans (by rw [y164])) ?_
     refine wp_skip ?_
     repeat (with_reducible refine block_norm ?_)
     refine hK115 _ _ ?_
     refine rg mixed 82 [.eq (.int .i64 i), .eq (.int .i64 (i - 1)), .eq (.int .i64 (i - 1))] [[(10, none)], [(54, some 0)], [(55, some 1)]] d156 z156 (by kernel_rfl) ⟨Ov rfl rfl fun _ _ T ⟨k10, _⟩ => ex_move (k10.trans s162_10), Ov rfl rfl fun _ _ T ⟨k54, _⟩ => ex_sub64 k54 rfl (by omega), Ov rfl rfl fun _ _ T ⟨k55, _⟩ => ex_assign k55, trivial⟩ ?_
     intro a181 w181 d181 z181 t181 e181 q181
     repeat (with_reducible refine block_norm ?_)
     have good := RM.ok.elim (fun hQ => hQ.2) (fun hQ => absurd hQ (by have := c164; omega))
     have s182_0 := ((q181 0 rfl).trans s157_0)
     have s183_1 := ((q181 1 rfl).trans s160_1)
     have s184_8 := ((q181 8 rfl).trans s161_8)
     have s185_9 : a152.eval (.tmp 9) = .int .i64 ((mkF A1 most ((at_ L l0 i).1, 0, r)).2.1) := (u152.here _ rfl)
     have s186_9 := ((q181 9 rfl).trans ((q156 9 rfl).trans ((u153.past 9 rfl).trans s185_9)))
     have s187_10 : a181.eval (.tmp 10) = .int .i64 (i - 1) := e181.2.2.1
     have x188 := (Touch.trans x163 (Ext.touch t181))
     have HL_189 := (own_keep (own_keep (Mut.own m144 HL_139 hout1) t156) t181)
     have H144_190 := (ArenaAt.keep (ArenaAt.keep H144 t156) t181)
     refine then_norm ?_
     refine ⟨_, ⟨i - 1, _, Fp144, (mkF A1 most ((at_ L l0 i).1, 0, r)).2.1, rfl, d181, z181, s182_0, s183_1, s184_8, s186_9, s187_10, x188, HL_189, H144_190, by omega, by omega, good, i148, o146⟩, ?_⟩; (show _ < _); rw [hmu99]; exact by omega
   ·have c128 := y128
    have s191_61 : a123.eval (.tmp 61) = .bool ((at_ L l0 i).2) := e123.2.2.2.2.1
    refine wp_cond_false (s191_61.trans (by rw [y128])) ?_
    refine wp_skip ?_
    repeat (with_reducible refine block_norm ?_)
    refine hK118 _ _ ?_
    refine rgs mixed 82 [.eq (.int .i64 0)] [[]] d123 z123 (by kernel_rfl) ⟨Ov rfl rfl fun _ _ T _ => ex_assign rfl, trivial⟩ ?_
    intro a192 w192 d192 z192 t192 e192 q192
    refine wp_seq ?_
    refine seq_begin ?_
    refine sp z192 rfl rfl (ex_move ((q192 0 rfl).trans s124_0)) ?_; intro a193 u193 z193
    refine sp z193 rfl rfl (ex_move ((u193.past 1 rfl).trans ((q192 1 rfl).trans ((q123 1 rfl).trans s120_1)))) ?_; intro a194 u194 z194
    refine sp z194 rfl rfl (ex_move ((u194.past 10 rfl).trans ((u193.past 10 rfl).trans ((q192 10 rfl).trans ((q123 10 rfl).trans s121_10))))) ?_; intro a195 u195 z195
    refine sp z195 rfl rfl (ex_ixa Try.underlying128 (Try.sizeOf133 _) ((u195.past 65 rfl).trans (u194.here _ rfl)) hrw119 (u195.here _ rfl) (by omega) (by omega)) ?_; intro a196 u196 z196
    refine sp z196 rfl rfl (ex_fieldAddr (u196.here _ rfl) (fa_133_0 _ _ _)) ?_; intro a197 u197 z197
    have HL_199 := (own_keep (own_keep HL_122 t123) t192)
    refine sp z197 rfl rfl (ex_load (u197.here _ rfl) (Try.isAgg3 _) (own_at HL_199 hrw119 lvs2 (at_some' (d := l0) (by rfl) (by omega) (by omega)) 0 rfl)) ?_; intro a198 u198 z198
    have p201 := fr4 u193.past u194.past u195.past u196.past
    refine sp z198 rfl rfl (ex_move ((u198.past 11 rfl).trans ((u197.past 11 rfl).trans ((p201 11 rfl).trans ((q192 11 rfl).trans ((q123 11 rfl).trans e117.2.1)))))) ?_; intro a200 u200 z200
    refine sp z200 rfl rfl (ex_move ((u200.past 12 rfl).trans ((u198.past 12 rfl).trans ((u197.past 12 rfl).trans ((p201 12 rfl).trans ((q192 12 rfl).trans ((q123 12 rfl).trans e117.2.2.1))))))) ?_; intro a202 u202 z202
    have p204 := fr4 u197.past u198.past u200.past u202.past
    have f110_205 := (ArenaAt.keep f110_126 t192)
    have RM := cube_step (lo := r) (hi := 0) hI hL (by omega) hi1 (by rw [y128]; rfl) (by rw [y128]; rfl)
    have RB := cube_bad (lo := r) (hi := 0) hI (by omega) hi1 (by rw [y128]; rfl) (by rw [y128]; rfl)
    refine sc z202 rfl rfl (exl_call Try.func102 rfl rfl (cons_ops ((p204 64 rfl).trans ((u196.past 64 rfl).trans ((u195.past 64 rfl).trans ((u194.past 64 rfl).trans (u193.here _ rfl))))) (cons_ops ((u202.past 69 rfl).trans ((u200.past 69 rfl).trans (u198.here _ rfl))) (cons_ops ((u202.past 70 rfl).trans (u200.here _ rfl)) (cons_ops (u202.here _ rfl) nil_ops))))) (c_mk f110_205 _ _ _ (by omega) (by omega)) ?_
    rintro e203 w203 ⟨Fp203, he203, H203, m203⟩; refine ⟨_, he203, ?_⟩; intro a203 u203 z203
    have o206 := fun jQ hQ => Mut.out m203 (own_lt HL_199 hQ) (hout1 jQ hQ)
    have x207 := (Touch.trans x127 (Ext.touch t192))
    have i208 := Mut.inF m203 x207 hin
    refine sp z203 rfl rfl (ex_move (u203.here _ rfl)) ?_; intro a209 u209 z209
    refine sp z209 rfl rfl (ex_extract (u209.here _ rfl) rfl) ?_; intro a210 u210 z210
    refine sp z210 rfl rfl (ex_extract ((u210.past 63 rfl).trans (u209.here _ rfl)) rfl) ?_; intro a211 u211 z211
    refine sp z211 rfl rfl (ex_assign ((u211.past 73 rfl).trans (u210.here _ rfl))) ?_; intro a212 u212 z212
    refine sp z212 rfl rfl (ex_assign ((u212.past 74 rfl).trans (u211.here _ rfl))) ?_; intro a213 u213 z213
    have d214 := (u213.defs.trans (u212.defs.trans (u211.defs.trans (u210.defs.trans (u209.defs.trans (u203.defs.trans (u202.defs.trans (u200.defs.trans (u198.defs.trans (u197.defs.trans (u196.defs.trans (u195.defs.trans (u194.defs.trans (u193.defs.trans d192))))))))))))))
    refine seq_end ?_
    refine then_norm ?_
    have s215_13 : a213.eval (.tmp 13) = .int .i64 ((mkF A1 most ((at_ L l0 i).1, r, 0)).2.2) := (u213.here _ rfl)
    refine rgs mixed 82 [.eq (.int .i64 ((mkF A1 most ((at_ L l0 i).1, r, 0)).2.2)), .eq (.bool (decide (((mkF A1 most ((at_ L l0 i).1, r, 0)).2.2) ≠ 0)))] [[(13, none)], [(75, some 0)]] d214 z213 (by kernel_rfl) ⟨Ov rfl rfl fun _ _ T ⟨k13, _⟩ => ex_move (k13.trans s215_13), Ov rfl rfl fun _ _ T ⟨k75, _⟩ => ex_neq k75 rfl, trivial⟩ ?_
    intro a216 w216 d216 z216 t216 e216 q216
    have p218 := fr4 u203.past u209.past u210.past u211.past
    have s217_0 := ((q216 0 rfl).trans ((u213.past 0 rfl).trans ((u212.past 0 rfl).trans ((p218 0 rfl).trans ((p204 0 rfl).trans ((p201 0 rfl).trans ((q192 0 rfl).trans s124_0)))))))
    have s219_1 := ((q216 1 rfl).trans ((u213.past 1 rfl).trans ((u212.past 1 rfl).trans ((p218 1 rfl).trans ((p204 1 rfl).trans ((p201 1 rfl).trans ((q192 1 rfl).trans ((q123 1 rfl).trans s120_1))))))))
    have s220_8 := ((q216 8 rfl).trans ((u213.past 8 rfl).trans ((u212.past 8 rfl).trans ((p218 8 rfl).trans ((p204 8 rfl).trans ((p201 8 rfl).trans ((q192 8 rfl).trans s125_8)))))))
    have s221_10 := ((q216 10 rfl).trans ((u213.past 10 rfl).trans ((u212.past 10 rfl).trans ((p218 10 rfl).trans ((p204 10 rfl).trans ((p201 10 rfl).trans ((q192 10 rfl).trans ((q123 10 rfl).trans s121_10))))))))
    have x222 := (Touch.trans (Touch.mut x207 m203 hin) (Ext.touch t216))
    by_cases c223 : ((mkF A1 most ((at_ L l0 i).1, r, 0)).2.2) ≠ 0
    ·have y223 := decide_eq_true c223
     have s224_76 : a216.eval (.tmp 76) = .bool (decide (((mkF A1 most ((at_ L l0 i).1, r, 0)).2.2) ≠ 0)) := e216.2.1
     refine wp_cond_true (s224_76.trans (by rw [y223])) ?_
     have lenm := RM.wf.len; have roomm := RM.room
     refine wp_seq ?_
     refine seq_begin ?_
     refine sp z216 rfl rfl (ex_move s217_0) ?_; intro a225 u225 z225
     refine sp z225 rfl rfl (ex_move ((u225.past 8 rfl).trans s220_8)) ?_; intro a226 u226 z226
     have H203_228 := (ArenaAt.keep H203 t216)
     refine sc z226 rfl rfl (exl_call Try.func101 rfl rfl (cons_ops ((u226.past 77 rfl).trans (u225.here _ rfl)) (cons_ops (u226.here _ rfl) nil_ops))) (c_cut H203_228 (A.length : Int) (by omega) (by omega) RM.wf.nodup) ?_
     rintro e227 w227 ⟨he227, H227, m227⟩; refine ⟨_, he227, ?_⟩; intro a227 u227 z227
     have HL_229 := (own_keep (Mut.own m203 HL_199 hout1) t216)
     have o230 := fun jQ hQ => Mut.out m227 (own_lt HL_229 hQ) (o206 jQ hQ)
     have i231 := Mut.inF m227 x222 i208
     have d232 := (u227.defs.trans (u226.defs.trans (u225.defs.trans d216)))
     refine seq_end ?_
     refine then_norm ?_
     have s233_13 := ((u227.past 13 rfl).trans ((u226.past 13 rfl).trans ((u225.past 13 rfl).trans ((q216 13 rfl).trans s215_13))))
     refine rgs mixed 82 [.eq (.int .i64 ((mkF A1 most ((at_ L l0 i).1, r, 0)).2.2)), .eq (.int .i64 0), .eq (.int .i64 ((mkF A1 most ((at_ L l0 i).1, r, 0)).2.2))] [[(13, none)], [], [(80, some 0)]] d232 z227 (by kernel_rfl) ⟨Ov rfl rfl fun _ _ T ⟨k13, _⟩ => ex_move (k13.trans s233_13), Ov rfl rfl fun _ _ T _ => ex_assign rfl, Ov rfl rfl fun _ _ T ⟨k80, _⟩ => ex_assign k80, trivial⟩ ?_
     intro a234 w234 d234 z234 t234 e234 q234
     refine wp_ret ?_
     have s235_4 : a234.eval (.tmp 4) = .int .i64 0 := e234.2.1
     have s236_5 : a234.eval (.tmp 5) = .int .i64 ((mkF A1 most ((at_ L l0 i).1, r, 0)).2.2) := e234.2.2.1
     repeat (first | (with_reducible refine then_ret ?_) | (with_reducible refine block_ret ?_))
     refine rett (rs := [.tmp 4, .tmp 5]) (vs := [.int .i64 0, .int .i64 ((mkF A1 most ((at_ L l0 i).1, r, 0)).2.2)]) Try.results56 ⟨s235_4, ⟨s236_5, trivial⟩⟩ (by simp) d234 ?_
     have et := take_pre (hI.pre.trans RM.pre) hl2 (n := (A.length : Int)) rfl
     have H227_237 := (ArenaAt.keep H227 t234)
     have HH := H227_237
     rw [et] at HH
     have x238 := (Touch.trans (Touch.mut x222 m227 i231) (Ext.touch t234))
     have hc := RM.ok.elim (fun hQ => absurd hQ.1 c223) (fun hQ => hQ)
     exact ⟨_, _, _, _, rfl, HH, ⟨x238, i231⟩, ⟨hW, List.prefix_refl _, hm, .inr hc⟩, fun _ => ⟨rfl, rfl⟩, fun hn => by subst hn; simp at hi1; omega, (RB c223).symm⟩
    ·have y223 := decide_eq_false c223
     have s239_76 : a216.eval (.tmp 76) = .bool (decide (((mkF A1 most ((at_ L l0 i).1, r, 0)).2.2) ≠ 0)) := e216.2.1
     refine wp_cond_false (s239_76.trans (by rw [y223])) ?_
     refine wp_skip ?_
     repeat (with_reducible refine block_norm ?_)
     refine hK115 _ _ ?_
     refine rg mixed 82 [.eq (.int .i64 i), .eq (.int .i64 (i - 1)), .eq (.int .i64 (i - 1))] [[(10, none)], [(54, some 0)], [(55, some 1)]] d216 z216 (by kernel_rfl) ⟨Ov rfl rfl fun _ _ T ⟨k10, _⟩ => ex_move (k10.trans s221_10), Ov rfl rfl fun _ _ T ⟨k54, _⟩ => ex_sub64 k54 rfl (by omega), Ov rfl rfl fun _ _ T ⟨k55, _⟩ => ex_assign k55, trivial⟩ ?_
     intro a240 w240 d240 z240 t240 e240 q240
     repeat (with_reducible refine block_norm ?_)
     have good := RM.ok.elim (fun hQ => hQ.2) (fun hQ => absurd hQ (by have := c223; omega))
     have s241_0 := ((q240 0 rfl).trans s217_0)
     have s242_1 := ((q240 1 rfl).trans s219_1)
     have s243_8 := ((q240 8 rfl).trans s220_8)
     have s244_9 : a212.eval (.tmp 9) = .int .i64 ((mkF A1 most ((at_ L l0 i).1, r, 0)).2.1) := (u212.here _ rfl)
     have s245_9 := ((q240 9 rfl).trans ((q216 9 rfl).trans ((u213.past 9 rfl).trans s244_9)))
     have s246_10 : a240.eval (.tmp 10) = .int .i64 (i - 1) := e240.2.2.1
     have x247 := (Touch.trans x222 (Ext.touch t240))
     have HL_248 := (own_keep (own_keep (Mut.own m203 HL_199 hout1) t216) t240)
     have H203_249 := (ArenaAt.keep (ArenaAt.keep H203 t216) t240)
     refine then_norm ?_
     refine ⟨_, ⟨i - 1, _, Fp203, (mkF A1 most ((at_ L l0 i).1, r, 0)).2.1, rfl, d240, z240, s241_0, s242_1, s243_8, s245_9, s246_10, x247, HL_248, H203_249, by omega, by omega, good, i208, o206⟩, ?_⟩; (show _ < _); rw [hmu99]; exact by omega
  ·have y113 := decide_eq_false c113
   have s250_53 : a112.eval (.tmp 53) = .bool (decide (0 ≤ i)) := e112.2.1
   refine wp_cond_false (s250_53.trans (by rw [y113])) ?_
   refine wp_exit ?_
   repeat (first | (with_reducible refine then_exit ?_) | (with_reducible refine block_here ?_) | (with_reducible refine block_past rfl ?_))
   refine hK94 _ _ ?_
   have s251_9 := ((q112 9 rfl).trans s99_9)
   refine rgs mixed 82 [.eq (.int .i64 r), .eq (.int .i64 r), .eq (.int .i64 0)] [[(9, none)], [(81, some 0)], []] d112 z112 (by kernel_rfl) ⟨Ov rfl rfl fun _ _ T ⟨k9, _⟩ => ex_move (k9.trans s251_9), Ov rfl rfl fun _ _ T ⟨k81, _⟩ => ex_assign k81, Ov rfl rfl fun _ _ T _ => ex_assign rfl, trivial⟩ ?_
   intro a252 w252 d252 z252 t252 e252 q252
   refine wp_ret ?_
   have s253_4 : a252.eval (.tmp 4) = .int .i64 r := e252.2.1
   have s254_5 : a252.eval (.tmp 5) = .int .i64 0 := e252.2.2.1
   repeat (first | (with_reducible refine then_ret ?_) | (with_reducible refine block_ret ?_))
   refine rett (rs := [.tmp 4, .tmp 5]) (vs := [.int .i64 r, .int .i64 0]) Try.results56 ⟨s253_4, ⟨s254_5, trivial⟩⟩ (by simp) d252 ?_
   have hi : i = -1 := by omega
   subst hi
   have f110_255 := (ArenaAt.keep (ArenaAt.keep f110 t112) t252)
   have x256 := (Touch.trans (Touch.trans x99 (Ext.touch t112)) (Ext.touch t252))
   exact ⟨_, _, _, _, rfl, f110_255, ⟨x256, hin⟩, ⟨hI.wf, hI.pre, hI.room, .inl ⟨rfl, hI.ok, fun v => by rw [hI.den v]; rfl⟩⟩, fun hQ => absurd rfl hQ, fun hn => ⟨rfl, (hI.nil hn).1⟩, by have := hI.fn; simpa using this.symm⟩


end Go.Proofs.Yticodddigaiipaa
