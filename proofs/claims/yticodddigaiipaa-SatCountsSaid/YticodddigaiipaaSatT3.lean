/-
 Contracts of functions of the given program, each proved by a walk through its code: what a call answers, and what it leaves of memory; conditions: those ahead of each theorem's colon.
-/
import Derived.Test.YticodddigaiipaaSatT2
set_option linter.unusedVariables false
set_option linter.unusedSimpArgs false
namespace Go.Proofs.Yticodddigaiipaa
open Go.RowKit
theorem fa_123_0 (b off : Nat) (w : World) : (Instr.fieldAt 123 (.pointer (some ⟨b, off, none⟩)) 0).run Try.prog w = .ok (.pointer (some ⟨b, off, none⟩)) w := by kernel_rfl
theorem zv_119 (w : World) : (zeroValue 119).run Try.prog w = .ok (.agg #[.int .i64 0, .int .i64 0, .int .i64 0]) w := by kernel_rfl
theorem fa_119_0 (b off : Nat) (w : World) : (Instr.fieldAt 119 (.pointer (some ⟨b, off, none⟩)) 0).run Try.prog w = .ok (.pointer (some ⟨b, off, none⟩)) w := by kernel_rfl
theorem fa_119_1 (b off : Nat) (w : World) : (Instr.fieldAt 119 (.pointer (some ⟨b, off, none⟩)) 1).run Try.prog w = .ok (.pointer (some ⟨b, off + 1, none⟩)) w := by kernel_rfl
theorem fa_119_2 (b off : Nat) (w : World) : (Instr.fieldAt 119 (.pointer (some ⟨b, off, none⟩)) 2).run Try.prog w = .ok (.pointer (some ⟨b, off + 2, none⟩)) w := by kernel_rfl
theorem bd_119_0Ii64_1Ii64_2Ii64 (x0 : Int) (x1 : Int) (x2 : Int) (w : World) : (Instr.build 119 #[(0, .int .i64 x0), (1, .int .i64 x1), (2, .int .i64 x2)]).run Try.prog w = .ok (.agg #[.int .i64 x0, .int .i64 x1, .int .i64 x2]) w := by kernel_rfl
theorem fa_123_1 (b off : Nat) (w : World) : (Instr.fieldAt 123 (.pointer (some ⟨b, off, none⟩)) 1).run Try.prog w = .ok (.pointer (some ⟨b, off + 1, none⟩)) w := by kernel_rfl
theorem zv_3 (w : World) : (zeroValue 3).run Try.prog w = .ok (.int .i64 0) w := by kernel_rfl
theorem fa_123_2 (b off : Nat) (w : World) : (Instr.fieldAt 123 (.pointer (some ⟨b, off, none⟩)) 2).run Try.prog w = .ok (.pointer (some ⟨b, off + 2, none⟩)) w := by kernel_rfl
theorem bs_120_1_0AIi64Ii64Ii64E (x0 : Int) (x1 : Int) (x2 : Int) (w : World) : (Instr.buildSlice 120 1 #[(0, .agg #[.int .i64 x0, .int .i64 x1, .int .i64 x2])]).run Try.prog w = .ok (.slice (some ⟨w.heap.size, 0, none⟩) 1 1) (w.alloc (.cells #[.int .i64 x0, .int .i64 x1, .int .i64 x2] 119)) := by kernel_rfl
theorem el_120 : ElemOk Try.prog 120 119 3 24 := elemOk (z := .agg #[.int .i64 0, .int .i64 0, .int .i64 0]) Try.underlying120 (by kernel_rfl) rfl (by decide)
set_option maxRecDepth 100000 in
set_option maxHeartbeats 4000000 in
theorem a_len {w : World} {b : Nat} {Fp : Nat → Prop} {A : List N3} {most : Int} (H : ArenaAt w b Fp A most) : Calls Try.prog 16 #[.pointer (some ⟨b, 0, none⟩)] w fun e w' => e = .returned (.int .i64 A.length) ∧ Ext w w' := by
 obtain ⟨bm, row, cap, hb_0, ho_0, ⟨nQ, hm_0⟩, rfl⟩ := H.ex
 have n_b_bm : b ≠ bm := ne_kind hb_0 (MapF.block hm_0).choose_spec.choose_spec
 obtain ⟨cur_0, hr_0⟩ := row_lt ho_0
 have hcap_0 := own_cap ho_0
 have n_b_row : b ≠ row := ne_type hb_0 hr_0 (by decide)
 have n_row_bm : row ≠ bm := ne_kind hr_0 (MapF.block hm_0).choose_spec.choose_spec
 refine enter 10 Try.ntmps16 Try.func16 rfl (Nat.le_of_ble_eq_true rfl) fun a0 d0 z0 hargs => ?_
 have s0_0 : a0.eval (.tmp 0) = .pointer (some ⟨b, 0, none⟩) := hargs 0 _ rfl
 have x0 := Touch.refl NoF w
 refine rgs mixed 10 [.eq (.int .i64 0)] [[]] d0 z0 (by kernel_rfl) ⟨Ov rfl rfl fun _ _ T _ => ex_assign rfl, trivial⟩ ?_
 intro a1 w1 d1 z1 t1 e1 q1
 refine wp_seq_k fun K2 hK2 => ?_
 have s3_0 := ((q1 0 rfl).trans s0_0)
 refine rgs mixed 10 [.eq (.pointer (some ⟨b, 0, none⟩)), .eq (.bool false)] [[(0, none)], [(3, some 0)]] d1 z1 (by kernel_rfl) ⟨Ov rfl rfl fun _ _ T ⟨k0, _⟩ => ex_move (k0.trans s3_0), Ov rfl rfl fun _ _ T ⟨k3, _⟩ => ex_ptr_eql_nil k3 rfl (by kernel_rfl), trivial⟩ ?_
 intro a4 w4 d4 z4 t4 e4 q4
 have s5_4 : a4.eval (.tmp 4) = .bool false := e4.2.1
 refine wp_cond_false s5_4 ?_
 refine wp_skip ?_
 repeat (with_reducible refine block_norm ?_)
 refine hK2 _ _ ?_
 have s6_0 := ((q4 0 rfl).trans s3_0)
 have hb_7 := (Ext.keep t4 (Ext.keep t1 hb_0))
 refine rgs mixed 10 [.eq (.pointer (some ⟨b, 0, none⟩)), .eq (.pointer (some ⟨b, 0, none⟩)), .eq (.pointer (some ⟨b, 0, none⟩)), .eq (.slice (some ⟨row, 0, none⟩) A.length cap), .eq (.int .i64 (A.length : Int)), .eq (.int .i64 (A.length : Int))] [[(0, none)], [(5, some 0)], [(6, some 1)], [(7, some 2)], [(8, some 3)], [(9, some 4)]] d4 z4 (by kernel_rfl) ⟨Ov rfl rfl fun _ _ T ⟨k0, _⟩ => ex_move (k0.trans s6_0),
  Ov rfl rfl fun _ _ T ⟨k5, _⟩ => ex_nilCheck k5,
  Ov rfl rfl fun _ _ T ⟨k6, _⟩ => ex_fieldAddr k6 (fa_123_0 _ _ _),
  Ov rfl rfl fun _ _ T ⟨k7, _⟩ => ex_load k7 (Try.isAgg120 _) (cell_of (Ext.keep T.ext hb_7) rfl),
  Ov rfl rfl fun _ _ T ⟨k8, _⟩ => ex_len (cons_ops k8 nil_ops) Try.underlying120,
  Ov rfl rfl fun _ _ T ⟨k9, _⟩ => ex_assign k9,
  trivial⟩ ?_
 intro a8 w8 d8 z8 t8 e8 q8
 refine wp_ret ?_
 have s9_2 : a8.eval (.tmp 2) = .int .i64 (A.length : Int) := e8.2.2.2.2.2.1
 repeat (first | (with_reducible refine then_ret ?_) | (with_reducible refine block_ret ?_))
 refine retl (rs := [.tmp 2]) Try.results16 ⟨s9_2, trivial⟩ d8 ?_
 have x10 := (Touch.trans (Touch.trans (Touch.trans x0 (Ext.touch t1)) (Ext.touch t4)) (Ext.touch t8))
 exact ⟨rfl, (x10).ext⟩

set_option maxRecDepth 100000 in
set_option maxHeartbeats 4000000 in
theorem a_has {w : World} {b : Nat} {Fp : Nat → Prop} {A : List N3} {most : Int} (H : ArenaAt w b Fp A most) (i : Int) : Calls Try.prog 62 #[.pointer (some ⟨b, 0, none⟩), .int .i64 i] w fun e w' => e = .returned (.bool (decide (Okn A i))) ∧ Ext w w' := by
 obtain ⟨bm, row, cap, hb_0, ho_0, ⟨nQ, hm_0⟩, rfl⟩ := H.ex
 have n_b_bm : b ≠ bm := ne_kind hb_0 (MapF.block hm_0).choose_spec.choose_spec
 obtain ⟨cur_0, hr_0⟩ := row_lt ho_0
 have hcap_0 := own_cap ho_0
 have n_b_row : b ≠ row := ne_type hb_0 hr_0 (by decide)
 have n_row_bm : row ≠ bm := ne_kind hr_0 (MapF.block hm_0).choose_spec.choose_spec
 refine enter 20 Try.ntmps62 Try.func62 rfl (Nat.le_of_ble_eq_true rfl) fun a0 d0 z0 hargs => ?_
 have s0_0 : a0.eval (.tmp 0) = .pointer (some ⟨b, 0, none⟩) := hargs 0 _ rfl
 have s0_1 : a0.eval (.tmp 1) = .int .i64 i := hargs 1 _ rfl
 have x0 := Touch.refl NoF w
 refine rgs mixed 20 [.eq (.bool false)] [[]] d0 z0 (by kernel_rfl) ⟨Ov rfl rfl fun _ _ T _ => ex_assign rfl, trivial⟩ ?_
 intro a1 w1 d1 z1 t1 e1 q1
 have s2_0 := ((q1 0 rfl).trans s0_0)
 have s3_1 := ((q1 1 rfl).trans s0_1)
 have hb_4 := (Ext.keep t1 hb_0)
 refine rgs mixed 20 [.eq (.pointer (some ⟨b, 0, none⟩)), .eq (.bool true), .eq (.bool true), .eq (.int .i64 i), .eq (.bool (decide (0 ≤ i))), .eq (.bool (decide (0 ≤ i))), .eq (.bool (decide (0 ≤ i))), .eq (if (decide (0 ≤ i)) = true then .int .i64 i else undef), .eq (if (decide (0 ≤ i)) = true then .pointer (some ⟨b, 0, none⟩) else undef), .eq (if (decide (0 ≤ i)) = true then .pointer (some ⟨b, 0, none⟩) else undef), .eq (if (decide (0 ≤ i)) = true then .pointer (some ⟨b, 0, none⟩) else undef), .eq (if (decide (0 ≤ i)) = true then .slice (some ⟨row, 0, none⟩) A.length cap else undef), .eq (if (decide (0 ≤ i)) = true then .int .i64 (A.length : Int) else undef), .eq (if (decide (0 ≤ i)) = true then .bool (decide (i < (A.length : Int))) else undef), .eq (.bool ((decide (0 ≤ i)) && (decide (i < (A.length : Int))))), .eq (.bool ((decide (0 ≤ i)) && (decide (i < (A.length : Int)))))] [[(0, none)], [(5, some 0)], [(6, some 1)], [(1, none), (7, some 2)], [(8, some 3), (7, some 2)], [(7, some 2), (9, some 4)], [(10, some 5)], [(1, none), (11, some 6)], [(0, none), (11, some 6)], [(13, some 8), (11, some 6)], [(14, some 9), (11, some 6)], [(15, some 10), (11, some 6)], [(16, some 11), (11, some 6)], [(12, some 7), (17, some 12), (11, some 6)], [(11, some 6), (18, some 13)], [(19, some 14)]] d1 z1 (by kernel_rfl) ⟨Ov rfl rfl fun _ _ T ⟨k0, _⟩ => ex_move (k0.trans s2_0),
  Ov rfl rfl fun _ _ T ⟨k5, _⟩ => ex_ptr_neq_nil k5 rfl (by kernel_rfl),
  Ov rfl rfl fun _ _ T ⟨k6, _⟩ => ex_move k6,
  Oy rfl rfl rfl fun _ _ T ⟨k1, k7, _⟩ => ⟨k7, ex_move (k1.trans s3_1)⟩,
  Oy rfl rfl rfl fun _ _ T ⟨k8, k7, _⟩ => ⟨k7, ex_geq k8 rfl⟩,
  Ov rfl rfl fun _ _ T ⟨k7, k9, _⟩ => ex_pick_t k7 k9,
  Ov rfl rfl fun _ _ T ⟨k10, _⟩ => ex_move k10,
  Og rfl rfl rfl fun _ _ T ⟨k1, k11, _⟩ => ⟨k11, fun hcQ => ex_move (k1.trans s3_1)⟩,
  Og rfl rfl rfl fun _ _ T ⟨k0, k11, _⟩ => ⟨k11, fun hcQ => ex_move (k0.trans s2_0)⟩,
  Og rfl rfl rfl fun _ _ T ⟨k13, k11, _⟩ => ⟨k11, fun hcQ => ex_nilCheck (k13.trans (if_pos hcQ))⟩,
  Og rfl rfl rfl fun _ _ T ⟨k14, k11, _⟩ => ⟨k11, fun hcQ => ex_fieldAddr (k14.trans (if_pos hcQ)) (fa_123_0 _ _ _)⟩,
  Og rfl rfl rfl fun _ _ T ⟨k15, k11, _⟩ => ⟨k11, fun hcQ => ex_load (k15.trans (if_pos hcQ)) (Try.isAgg120 _) (cell_of (Ext.keep T.ext hb_4) rfl)⟩,
  Og rfl rfl rfl fun _ _ T ⟨k16, k11, _⟩ => ⟨k11, fun hcQ => ex_len (cons_ops (k16.trans (if_pos hcQ)) nil_ops) Try.underlying120⟩,
  Og rfl rfl rfl fun _ _ T ⟨k12, k17, k11, _⟩ => ⟨k11, fun hcQ => ex_lss (k12.trans (if_pos hcQ)) (k17.trans (if_pos hcQ))⟩,
  Ov rfl rfl fun _ _ T ⟨k11, k18, _⟩ => ex_pick_and k11 k18 rfl,
  Ov rfl rfl fun _ _ T ⟨k19, _⟩ => ex_assign k19,
  trivial⟩ ?_
 intro a5 w5 d5 z5 t5 e5 q5
 refine wp_ret ?_
 have s6_4 : a5.eval (.tmp 4) = .bool ((decide (0 ≤ i)) && (decide (i < (A.length : Int)))) := e5.2.2.2.2.2.2.2.2.2.2.2.2.2.2.2.1
 repeat (first | (with_reducible refine then_ret ?_) | (with_reducible refine block_ret ?_))
 refine retl (rs := [.tmp 4]) Try.results62 ⟨s6_4, trivial⟩ d5 ?_
 have x7 := (Touch.trans (Touch.trans x0 (Ext.touch t1)) (Ext.touch t5))
 exact ⟨by congr 2; simp [Okn, Bool.eq_iff_iff], (x7).ext⟩

set_option maxRecDepth 100000 in
set_option maxHeartbeats 4000000 in
theorem c_parts {w : World} {b : Nat} {Fp : Nat → Prop} {A : List N3} {most : Int} (H : ArenaAt w b Fp A most) (f k : Int) (hf : 0 ≤ f ∧ f < A.length) : Calls Try.prog 132 #[.pointer (some ⟨b, 0, none⟩), .int .i64 f, .int .i64 k] w fun e w' => e = .returned (.tuple #[.int .i64 (partF A f k).1, .int .i64 (partF A f k).2]) ∧ Ext w w' := by
 obtain ⟨bm, row, cap, hb_0, ho_0, ⟨nQ, hm_0⟩, rfl⟩ := H.ex
 have n_b_bm : b ≠ bm := ne_kind hb_0 (MapF.block hm_0).choose_spec.choose_spec
 obtain ⟨cur_0, hr_0⟩ := row_lt ho_0
 have hcap_0 := own_cap ho_0
 have n_b_row : b ≠ row := ne_type hb_0 hr_0 (by decide)
 have n_row_bm : row ≠ bm := ne_kind hr_0 (MapF.block hm_0).choose_spec.choose_spec
 refine enter 26 Try.ntmps132 Try.func132 rfl (Nat.le_of_ble_eq_true rfl) fun a0 d0 z0 hargs => ?_
 have s0_0 : a0.eval (.tmp 0) = .pointer (some ⟨b, 0, none⟩) := hargs 0 _ rfl
 have s0_1 : a0.eval (.tmp 1) = .int .i64 f := hargs 1 _ rfl
 have s0_2 : a0.eval (.tmp 2) = .int .i64 k := hargs 2 _ rfl
 have x0 := Touch.refl NoF w
 refine rgs mixed 26 [.eq (.int .i64 0), .eq (.int .i64 0)] [[], []] d0 z0 (by kernel_rfl) ⟨Ov rfl rfl fun _ _ T _ => ex_assign rfl, Ov rfl rfl fun _ _ T _ => ex_assign rfl, trivial⟩ ?_
 intro a1 w1 d1 z1 t1 e1 q1
 refine wp_seq_k fun K2 hK2 => ?_
 refine wp_seq ?_
 refine seq_begin ?_
 refine sp z1 rfl rfl (ex_move ((q1 0 rfl).trans s0_0)) ?_; intro a3 u3 z3
 refine sp z3 rfl rfl (ex_nilCheck (u3.here _ rfl)) ?_; intro a4 u4 z4
 refine sp z4 rfl rfl (ex_fieldAddr (u4.here _ rfl) (fa_123_0 _ _ _)) ?_; intro a5 u5 z5
 have hb_7 := (Ext.keep t1 hb_0)
 refine sp z5 rfl rfl (ex_load (u5.here _ rfl) (Try.isAgg120 _) (cell_of hb_7 rfl)) ?_; intro a6 u6 z6
 have p9 := fr4 q1 u3.past u4.past u5.past
 refine sp z6 rfl rfl (ex_move ((u6.past 1 rfl).trans ((p9 1 rfl).trans s0_1))) ?_; intro a8 u8 z8
 refine sp z8 rfl rfl (ex_ixa Try.underlying120 (Try.sizeOf119 _) ((u8.past 12 rfl).trans (u6.here _ rfl)) rfl (u8.here _ rfl) (by omega) (by omega)) ?_; intro a10 u10 z10
 have ho_12 := (own_keep ho_0 t1)
 refine sp z10 rfl rfl (ex_loadAgg (cs := [.int .i64 ((at_ A n0 f).1), .int .i64 ((at_ A n0 f).2.1), .int .i64 ((at_ A n0 f).2.2)]) (u10.here _ rfl) (Try.isAgg119 _) (Try.sizeOf119 _) (own_ats (us := [.int .i64 ((at_ A n0 f).1), .int .i64 ((at_ A n0 f).2.1), .int .i64 ((at_ A n0 f).2.2)]) ho_12 rfl nvs3 (at_some' (d := n0) (by rfl) (by omega) (by omega)) 0 rfl)) ?_; intro a11 u11 z11
 refine salloc z11 rfl (zv_119 _) ?_; intro b13 w13 a13 t13 g13 hb13 u13 z13
 have n14_b_b13 := ne_lt (lt_of hb_7) g13
 have n15_row_b13 := ne_lt (own_lt ho_12 rfl) g13
 have hm_17 := (MapF.keep hm_0 t1)
 have n16_bm_b13 := ne_lt (MapF.lt hm_17) g13
 have x19 := (Touch.trans x0 (Ext.touch t1))
 have yb13_18 := Nat.le_trans (Touch.size x19) g13
 refine sstore (cs := [.int .i64 0, .int .i64 0, .int .i64 0]) (vs := [.int .i64 ((at_ A n0 f).1), .int .i64 ((at_ A n0 f).2.1), .int .i64 ((at_ A n0 f).2.2)]) (cs' := [.int .i64 ((at_ A n0 f).1), .int .i64 ((at_ A n0 f).2.1), .int .i64 ((at_ A n0 f).2.2)]) z13 rfl (u13.here _ rfl) ((u13.past 15 rfl).trans (u11.here _ rfl)) hb13 (Try.sizeOf119 _) rfl rfl (by decide) (Nat.le_of_ble_eq_true rfl) rfl rfl ?_; intro w20 a20 t20 u20 z20
 have d21 := (u20.defs.trans (u13.defs.trans (u11.defs.trans (u10.defs.trans (u8.defs.trans (u6.defs.trans (u5.defs.trans (u4.defs.trans (u3.defs.trans d1)))))))))
 refine seq_end ?_
 refine then_norm ?_
 have s22_8 : a13.eval (.tmp 8) = .pointer (some ⟨b13, 0, none⟩) := (u13.here _ rfl)
 have s23_8 := ((u20.past 8 rfl).trans s22_8)
 have p25 := fr4 u6.past u8.past u10.past u11.past
 have s24_2 := ((u20.past 2 rfl).trans ((u13.past 2 rfl).trans ((p25 2 rfl).trans ((p9 2 rfl).trans s0_2))))
 refine rgs mixed 26 [.eq (.pointer (some ⟨b13, 0, none⟩)), .eq (.int .i64 ((at_ A n0 f).1)), .eq (.int .i64 k), .eq (.bool (decide (((at_ A n0 f).1) = k)))] [[(8, none)], [(16, some 0)], [(2, none)], [(17, some 1), (18, some 2)]] d21 z20 (by kernel_rfl) ⟨Ov rfl rfl fun _ _ T ⟨k8, _⟩ => ex_fieldAddr (k8.trans s23_8) (fa_119_0 _ _ _),
  Ov rfl rfl fun _ _ T ⟨k16, _⟩ => ex_load k16 (Try.isAgg3 _) (cell_of (Ext.keep T.ext t20.here) rfl),
  Ov rfl rfl fun _ _ T ⟨k2, _⟩ => ex_move (k2.trans s24_2),
  Ov rfl rfl fun _ _ T ⟨k17, k18, _⟩ => ex_eql k17 k18,
  trivial⟩ ?_
 intro a26 w26 d26 z26 t26 e26 q26
 have hb_27 := (Ext.keep t26 (Turn.keep t20 (Ext.keep t13 hb_7) n14_b_b13))
 have ho_28 := (own_keep (own_touch (own_keep ho_12 t13) t20.touch (fun jQ hQ eQ => n15_row_b13 ((Option.some.inj hQ).trans eQ))) t26)
 have hm_29 := (MapF.keep (MapF.same (MapF.keep hm_17 t13) (t20.touch.block _ (MapF.lt (MapF.keep hm_17 t13)) n16_bm_b13)) t26)
 have x30 := (Touch.trans (Touch.turn (Touch.trans x19 (Ext.touch t13)) t20 (Or.inr yb13_18)) (Ext.touch t26))
 by_cases c31 : ((at_ A n0 f).1) = k
 ·have y31 := decide_eq_true c31
  have s32_19 : a26.eval (.tmp 19) = .bool (decide (((at_ A n0 f).1) = k)) := e26.2.2.2.1
  refine wp_cond_true (s32_19.trans (by rw [y31])) ?_
  have s33_8 := ((q26 8 rfl).trans s23_8)
  have t20.here_34 := (Ext.keep t26 t20.here)
  refine rgs mixed 26 [.eq (.pointer (some ⟨b13, 1, none⟩)), .eq (.int .i64 ((at_ A n0 f).2.1)), .eq (.pointer (some ⟨b13, 2, none⟩)), .eq (.int .i64 ((at_ A n0 f).2.2)), .eq (.int .i64 ((at_ A n0 f).2.1)), .eq (.int .i64 ((at_ A n0 f).2.2))] [[(8, none)], [(20, some 0)], [(8, none)], [(22, some 2)], [(21, some 1)], [(23, some 3)]] d26 z26 (by kernel_rfl) ⟨Ov rfl rfl fun _ _ T ⟨k8, _⟩ => ex_fieldAddr (k8.trans s33_8) (fa_119_1 _ _ _),
   Ov rfl rfl fun _ _ T ⟨k20, _⟩ => ex_load k20 (Try.isAgg3 _) (cell_of (Ext.keep T.ext t20.here_34) rfl),
   Ov rfl rfl fun _ _ T ⟨k8, _⟩ => ex_fieldAddr (k8.trans s33_8) (fa_119_2 _ _ _),
   Ov rfl rfl fun _ _ T ⟨k22, _⟩ => ex_load k22 (Try.isAgg3 _) (cell_of (Ext.keep T.ext t20.here_34) rfl),
   Ov rfl rfl fun _ _ T ⟨k21, _⟩ => ex_assign k21,
   Ov rfl rfl fun _ _ T ⟨k23, _⟩ => ex_assign k23,
   trivial⟩ ?_
  intro a35 w35 d35 z35 t35 e35 q35
  refine wp_ret ?_
  have s36_6 : a35.eval (.tmp 6) = .int .i64 ((at_ A n0 f).2.1) := e35.2.2.2.2.1
  have s37_7 : a35.eval (.tmp 7) = .int .i64 ((at_ A n0 f).2.2) := e35.2.2.2.2.2.1
  repeat (first | (with_reducible refine then_ret ?_) | (with_reducible refine block_ret ?_))
  refine rett (rs := [.tmp 6, .tmp 7]) (vs := [.int .i64 ((at_ A n0 f).2.1), .int .i64 ((at_ A n0 f).2.2)]) Try.results132 ⟨s36_6, ⟨s37_7, trivial⟩⟩ (by simp) d35 ?_
  have x38 := (Touch.trans x30 (Ext.touch t35))
  exact ⟨by unfold partF; rw [if_pos c31], (x38).ext⟩
 ·have y31 := decide_eq_false c31
  have s39_19 : a26.eval (.tmp 19) = .bool (decide (((at_ A n0 f).1) = k)) := e26.2.2.2.1
  refine wp_cond_false (s39_19.trans (by rw [y31])) ?_
  refine wp_skip ?_
  repeat (with_reducible refine block_norm ?_)
  refine hK2 _ _ ?_
  have s40_1 := ((q26 1 rfl).trans ((u20.past 1 rfl).trans ((u13.past 1 rfl).trans ((p25 1 rfl).trans ((p9 1 rfl).trans s0_1)))))
  refine rgs mixed 26 [.eq (.int .i64 f), .eq (.int .i64 f), .eq (.int .i64 f), .eq (.int .i64 f)] [[(1, none)], [(1, none)], [(24, some 0)], [(25, some 1)]] d26 z26 (by kernel_rfl) ⟨Ov rfl rfl fun _ _ T ⟨k1, _⟩ => ex_move (k1.trans s40_1),
   Ov rfl rfl fun _ _ T ⟨k1, _⟩ => ex_move (k1.trans s40_1),
   Ov rfl rfl fun _ _ T ⟨k24, _⟩ => ex_assign k24,
   Ov rfl rfl fun _ _ T ⟨k25, _⟩ => ex_assign k25,
   trivial⟩ ?_
  intro a41 w41 d41 z41 t41 e41 q41
  refine wp_ret ?_
  have s42_6 : a41.eval (.tmp 6) = .int .i64 f := e41.2.2.1
  have s43_7 : a41.eval (.tmp 7) = .int .i64 f := e41.2.2.2.1
  repeat (first | (with_reducible refine then_ret ?_) | (with_reducible refine block_ret ?_))
  refine rett (rs := [.tmp 6, .tmp 7]) (vs := [.int .i64 f, .int .i64 f]) Try.results132 ⟨s42_6, ⟨s43_7, trivial⟩⟩ (by simp) d41 ?_
  have x44 := (Touch.trans x30 (Ext.touch t41))
  exact ⟨by unfold partF; rw [if_neg c31], (x44).ext⟩

set_option maxRecDepth 100000 in
set_option maxHeartbeats 4000000 in
theorem c_mk {w : World} {b : Nat} {Fp : Nat → Prop} {A : List N3} {most : Int} (H : ArenaAt w b Fp A most) (l lo hi : Int) (h2 : 2 ≤ A.length) (hA : A.length ≤ 262144) : Calls Try.prog 102 #[.pointer (some ⟨b, 0, none⟩), .int .i64 l, .int .i64 lo, .int .i64 hi] w fun e w' => ∃ Fp', e = .returned (.tuple #[.int .i64 (mkF A most (l, lo, hi)).2.1, .int .i64 (mkF A most (l, lo, hi)).2.2]) ∧ ArenaAt w' b Fp' (mkF A most (l, lo, hi)).1 most ∧ Mut Fp Fp' w w' := by
 obtain ⟨bm, row, cap, hb_0, ho_0, ⟨nQ, hm_0⟩, rfl⟩ := H.ex
 have n_b_bm : b ≠ bm := ne_kind hb_0 (MapF.block hm_0).choose_spec.choose_spec
 obtain ⟨cur_0, hr_0⟩ := row_lt ho_0
 have hcap_0 := own_cap ho_0
 have n_b_row : b ≠ row := ne_type hb_0 hr_0 (by decide)
 have n_row_bm : row ≠ bm := ne_kind hr_0 (MapF.block hm_0).choose_spec.choose_spec
 refine enter 69 Try.ntmps102 Try.func102 rfl (Nat.le_of_ble_eq_true rfl) fun a0 d0 z0 hargs => ?_
 have s0_0 : a0.eval (.tmp 0) = .pointer (some ⟨b, 0, none⟩) := hargs 0 _ rfl
 have s0_1 : a0.eval (.tmp 1) = .int .i64 l := hargs 1 _ rfl
 have s0_2 : a0.eval (.tmp 2) = .int .i64 lo := hargs 2 _ rfl
 have s0_3 : a0.eval (.tmp 3) = .int .i64 hi := hargs 3 _ rfl
 have x0 := Touch.refl (fun k => k = b ∨ k = bm ∨ k = row) w
 refine rgs mixed 69 [.eq (.int .i64 0), .eq (.int .i64 0)] [[], []] d0 z0 (by kernel_rfl) ⟨Ov rfl rfl fun _ _ T _ => ex_assign rfl, Ov rfl rfl fun _ _ T _ => ex_assign rfl, trivial⟩ ?_
 intro a1 w1 d1 z1 t1 e1 q1
 refine wp_seq_k fun K2 hK2 => ?_
 have s3_2 := ((q1 2 rfl).trans s0_2)
 have s4_3 := ((q1 3 rfl).trans s0_3)
 refine rgs mixed 69 [.eq (.int .i64 lo), .eq (.int .i64 hi), .eq (.bool (decide (lo = hi)))] [[(2, none)], [(3, none)], [(13, some 0), (14, some 1)]] d1 z1 (by kernel_rfl) ⟨Ov rfl rfl fun _ _ T ⟨k2, _⟩ => ex_move (k2.trans s3_2), Ov rfl rfl fun _ _ T ⟨k3, _⟩ => ex_move (k3.trans s4_3), Ov rfl rfl fun _ _ T ⟨k13, k14, _⟩ => ex_eql k13 k14, trivial⟩ ?_
 intro a5 w5 d5 z5 t5 e5 q5
 have x6 := (Touch.trans (Touch.trans x0 (Ext.touch t1)) (Ext.touch t5))
 by_cases c7 : lo = hi
 ·have y7 := decide_eq_true c7
  have s8_15 : a5.eval (.tmp 15) = .bool (decide (lo = hi)) := e5.2.2.1
  refine wp_cond_true (s8_15.trans (by rw [y7])) ?_
  have s9_2 := ((q5 2 rfl).trans s3_2)
  refine rgs mixed 69 [.eq (.int .i64 lo), .eq (.int .i64 lo), .eq (.int .i64 0)] [[(2, none)], [(16, some 0)], []] d5 z5 (by kernel_rfl) ⟨Ov rfl rfl fun _ _ T ⟨k2, _⟩ => ex_move (k2.trans s9_2), Ov rfl rfl fun _ _ T ⟨k16, _⟩ => ex_assign k16, Ov rfl rfl fun _ _ T _ => ex_assign rfl, trivial⟩ ?_
  intro a10 w10 d10 z10 t10 e10 q10
  refine wp_ret ?_
  have s11_8 : a10.eval (.tmp 8) = .int .i64 lo := e10.2.1
  have s12_9 : a10.eval (.tmp 9) = .int .i64 0 := e10.2.2.1
  repeat (first | (with_reducible refine then_ret ?_) | (with_reducible refine block_ret ?_))
  refine rett (rs := [.tmp 8, .tmp 9]) (vs := [.int .i64 lo, .int .i64 0]) Try.results102 ⟨s11_8, ⟨s12_9, trivial⟩⟩ (by simp) d10 ?_
  have em : mkF A most (l, lo, hi) = (A, lo, 0) := by unfold mkF; rw [if_pos c7]
  rw [em]
  have hb_13 := (Ext.keep t10 (Ext.keep t5 (Ext.keep t1 hb_0)))
  have ho_14 := (own_keep (own_keep (own_keep ho_0 t1) t5) t10)
  have hm_15 := (MapF.keep (MapF.keep (MapF.keep hm_0 t1) t5) t10)
  have x16 := (Touch.trans x6 (Ext.touch t10))
  exact ⟨_, rfl, ⟨bm, row, cap, hb_13, ho_14, ⟨_, hm_15⟩, rfl⟩, ⟨x16, fun _ h => .inl h⟩⟩
 ·have y7 := decide_eq_false c7
  have s17_15 : a5.eval (.tmp 15) = .bool (decide (lo = hi)) := e5.2.2.1
  refine wp_cond_false (s17_15.trans (by rw [y7])) ?_
  refine wp_skip ?_
  repeat (with_reducible refine block_norm ?_)
  refine hK2 _ _ ?_
  refine wp_seq ?_
  refine seq_begin ?_
  refine sp z5 rfl rfl (ex_move ((q5 1 rfl).trans ((q1 1 rfl).trans s0_1))) ?_; intro a18 u18 z18
  refine sp z18 rfl rfl (ex_move ((u18.past 2 rfl).trans ((q5 2 rfl).trans s3_2))) ?_; intro a19 u19 z19
  refine sp z19 rfl rfl (ex_move ((u19.past 3 rfl).trans ((u18.past 3 rfl).trans ((q5 3 rfl).trans s4_3)))) ?_; intro a20 u20 z20
  refine sp z20 rfl rfl (exl_build (cons_parts ((u20.past 17 rfl).trans ((u19.past 17 rfl).trans (u18.here _ rfl))) (cons_parts ((u20.past 18 rfl).trans (u19.here _ rfl)) (cons_parts (u20.here _ rfl) nil_parts))) (bd_119_0Ii64_1Ii64_2Ii64 l lo hi _)) ?_; intro a21 u21 z21
  refine salloc z21 rfl (zv_119 _) ?_; intro b22 w22 a22 t22 g22 hb22 u22 z22
  have hb_24 := (Ext.keep t5 (Ext.keep t1 hb_0))
  have n23_b_b22 := ne_lt (lt_of hb_24) g22
  have ho_26 := (own_keep (own_keep ho_0 t1) t5)
  have n25_row_b22 := ne_lt (own_lt ho_26 rfl) g22
  have hm_28 := (MapF.keep (MapF.keep hm_0 t1) t5)
  have n27_bm_b22 := ne_lt (MapF.lt hm_28) g22
  have yb22_29 := Nat.le_trans (Touch.size x6) g22
  refine sstore (cs := [.int .i64 0, .int .i64 0, .int .i64 0]) (vs := [.int .i64 l, .int .i64 lo, .int .i64 hi]) (cs' := [.int .i64 l, .int .i64 lo, .int .i64 hi]) z22 rfl (u22.here _ rfl) ((u22.past 20 rfl).trans (u21.here _ rfl)) hb22 (Try.sizeOf119 _) rfl rfl (by decide) (Nat.le_of_ble_eq_true rfl) rfl rfl ?_; intro w30 a30 t30 u30 z30
  have d31 := (u30.defs.trans (u22.defs.trans (u21.defs.trans (u20.defs.trans (u19.defs.trans (u18.defs.trans d5))))))
  refine seq_end ?_
  refine then_norm ?_
  refine wp_seq_k fun K32 hK32 => ?_
  have x41 := (Touch.turn (Touch.trans x6 (Ext.touch t22)) t30 (Or.inr yb22_29))
  rcases hq40 : ixOf A (l, lo, hi) with _ | q40
  ·skip
   have p43 := fr4 q1 q5 u18.past u19.past
   have p44 := fr4 u20.past u21.past u22.past u30.past
   have s42_0 := ((p44 0 rfl).trans ((p43 0 rfl).trans s0_0))
   have hb_45 := (Turn.keep t30 (Ext.keep t22 hb_24) n23_b_b22)
   have s46_10 : a22.eval (.tmp 10) = .pointer (some ⟨b22, 0, none⟩) := (u22.here _ rfl)
   have s47_10 := ((u30.past 10 rfl).trans s46_10)
   have hm_48 := (MapF.same (MapF.keep hm_28 t22) (t30.touch.block _ (MapF.lt (MapF.keep hm_28 t22)) n27_bm_b22))
   refine rgs mixed 69 [.eq (.pointer (some ⟨b, 0, none⟩)), .eq (.pointer (some ⟨b, 0, none⟩)), .eq (.pointer (some ⟨b, 1, none⟩)), .eq (.map (some bm)), .eq (.agg #[.int .i64 l, .int .i64 lo, .int .i64 hi]), .eq (.tuple #[.int .i64 0, .bool false]), .eq (.tuple #[.int .i64 0, .bool false]), .eq (.int .i64 0), .eq (.bool false), .eq (.int .i64 0), .eq (.bool false)] [[(0, none)], [(22, some 0)], [(23, some 1)], [(24, some 2)], [(10, none)], [(25, some 3), (26, some 4)], [(27, some 5)], [(21, some 6)], [(21, some 6)], [(28, some 7)], [(29, some 8)]] d31 z30 (by kernel_rfl) ⟨Ov rfl rfl fun _ _ T ⟨k0, _⟩ => ex_move (k0.trans s42_0),
    Ov rfl rfl fun _ _ T ⟨k22, _⟩ => ex_nilCheck k22,
    Ov rfl rfl fun _ _ T ⟨k23, _⟩ => ex_fieldAddr k23 (fa_123_1 _ _ _),
    Ov rfl rfl fun _ _ T ⟨k24, _⟩ => ex_load k24 (Try.isAgg121 _) (cell_of (Ext.keep T.ext hb_45) rfl),
    Ov rfl rfl fun _ _ T ⟨k10, _⟩ => ex_loadAgg (cs := [.int .i64 l, .int .i64 lo, .int .i64 hi]) (k10.trans s47_10) (Try.isAgg119 _) (Try.sizeOf119 _) (cells_of (off := 0) (Ext.keep T.ext t30.here) rfl),
    Ov rfl rfl fun _ _ T ⟨k25, k26, _⟩ => (ex_look_ok (xk := (l, lo, hi)) (MapF.keep hm_48 T.ext) nodeKey Try.underlying121 (zv_3 _) k25 k26).trans (by rw [hq40]; rfl),
    Ov rfl rfl fun _ _ T ⟨k27, _⟩ => ex_move k27,
    Ov rfl rfl fun _ _ T ⟨k21, _⟩ => ex_extract k21 rfl,
    Ov rfl rfl fun _ _ T ⟨k21, _⟩ => ex_extract k21 rfl,
    Ov rfl rfl fun _ _ T ⟨k28, _⟩ => ex_assign k28,
    Ov rfl rfl fun _ _ T ⟨k29, _⟩ => ex_assign k29,
    trivial⟩ ?_
   intro a49 w49 d49 z49 t49 e49 q49
   have s50_12 : a49.eval (.tmp 12) = .bool false := e49.2.2.2.2.2.2.2.2.2.2.1
   refine rgs mixed 69 [.eq (.bool false)] [[(12, none)]] d49 z49 (by kernel_rfl) ⟨Ov rfl rfl fun _ _ T ⟨k12, _⟩ => ex_move (k12.trans s50_12), trivial⟩ ?_
   intro a51 w51 d51 z51 t51 e51 q51
   have s52_30 : a51.eval (.tmp 30) = .bool false := e51.1
   refine wp_cond_false s52_30 ?_
   refine wp_skip ?_
   repeat (with_reducible refine block_norm ?_)
   refine hK32 _ _ ?_
   refine wp_seq_k fun K53 hK53 => ?_
   have s54_0 := ((q51 0 rfl).trans ((q49 0 rfl).trans s42_0))
   have hb_55 := (Ext.keep t51 (Ext.keep t49 hb_45))
   refine rgs mixed 69 [.eq (.pointer (some ⟨b, 0, none⟩)), .eq (.pointer (some ⟨b, 0, none⟩)), .eq (.pointer (some ⟨b, 0, none⟩)), .eq (.slice (some ⟨row, 0, none⟩) A.length cap), .eq (.int .i64 (A.length : Int)), .eq (.pointer (some ⟨b, 0, none⟩)), .eq (.pointer (some ⟨b, 0, none⟩)), .eq (.pointer (some ⟨b, 2, none⟩)), .eq (.int .i64 most), .eq (.bool (decide (most ≤ (A.length : Int))))] [[(0, none)], [(32, some 0)], [(33, some 1)], [(34, some 2)], [(35, some 3)], [(0, none)], [(37, some 5)], [(38, some 6)], [(39, some 7)], [(36, some 4), (40, some 8)]] d51 z51 (by kernel_rfl) ⟨Ov rfl rfl fun _ _ T ⟨k0, _⟩ => ex_move (k0.trans s54_0),
    Ov rfl rfl fun _ _ T ⟨k32, _⟩ => ex_nilCheck k32,
    Ov rfl rfl fun _ _ T ⟨k33, _⟩ => ex_fieldAddr k33 (fa_123_0 _ _ _),
    Ov rfl rfl fun _ _ T ⟨k34, _⟩ => ex_load k34 (Try.isAgg120 _) (cell_of (Ext.keep T.ext hb_55) rfl),
    Ov rfl rfl fun _ _ T ⟨k35, _⟩ => ex_len (cons_ops k35 nil_ops) Try.underlying120,
    Ov rfl rfl fun _ _ T ⟨k0, _⟩ => ex_move (k0.trans s54_0),
    Ov rfl rfl fun _ _ T ⟨k37, _⟩ => ex_nilCheck k37,
    Ov rfl rfl fun _ _ T ⟨k38, _⟩ => ex_fieldAddr k38 (fa_123_2 _ _ _),
    Ov rfl rfl fun _ _ T ⟨k39, _⟩ => ex_load k39 (Try.isAgg3 _) (cell_of (Ext.keep T.ext hb_55) rfl),
    Ov rfl rfl fun _ _ T ⟨k36, k40, _⟩ => ex_geq k36 k40,
    trivial⟩ ?_
   intro a56 w56 d56 z56 t56 e56 q56
   have ho_57 := (own_keep (own_keep (own_keep (own_touch (own_keep ho_26 t22) t30.touch (fun jQ hQ eQ => n25_row_b22 ((Option.some.inj hQ).trans eQ))) t49) t51) t56)
   have hm_58 := (MapF.keep (MapF.keep (MapF.keep hm_48 t49) t51) t56)
   have t30.here_59 := (Ext.keep t56 (Ext.keep t51 (Ext.keep t49 t30.here)))
   have x60 := (Touch.trans (Touch.trans (Touch.trans x41 (Ext.touch t49)) (Ext.touch t51)) (Ext.touch t56))
   by_cases c61 : most ≤ (A.length : Int)
   ·have y61 := decide_eq_true c61
    have s62_41 : a56.eval (.tmp 41) = .bool (decide (most ≤ (A.length : Int))) := e56.2.2.2.2.2.2.2.2.2.1
    refine wp_cond_true (s62_41.trans (by rw [y61])) ?_
    refine rgs mixed 69 [.eq (.int .i64 0), .eq (.int .i64 20)] [[], []] d56 z56 (by kernel_rfl) ⟨Ov rfl rfl fun _ _ T _ => ex_assign rfl, Ov rfl rfl fun _ _ T _ => ex_assign rfl, trivial⟩ ?_
    intro a63 w63 d63 z63 t63 e63 q63
    refine wp_ret ?_
    have s64_8 : a63.eval (.tmp 8) = .int .i64 0 := e63.1
    have s65_9 : a63.eval (.tmp 9) = .int .i64 20 := e63.2.1
    repeat (first | (with_reducible refine then_ret ?_) | (with_reducible refine block_ret ?_))
    refine rett (rs := [.tmp 8, .tmp 9]) (vs := [.int .i64 0, .int .i64 20]) Try.results102 ⟨s64_8, ⟨s65_9, trivial⟩⟩ (by simp) d63 ?_
    have hb_66 := (Ext.keep t63 (Ext.keep t56 hb_55))
    have hm_67 := (MapF.keep hm_58 t63)
    have em : mkF A most (l, lo, hi) = (A, 0, 20) := by unfold mkF; rw [if_neg c7, hq40]; simp only []; rw [if_pos c61]
    rw [em]
    have ho_68 := (own_keep ho_57 t63)
    have x69 := (Touch.trans x60 (Ext.touch t63))
    exact ⟨_, rfl, ⟨bm, row, cap, hb_66, ho_68, ⟨_, hm_67⟩, rfl⟩, ⟨x69, fun _ h => .inl h⟩⟩
   ·have y61 := decide_eq_false c61
    have s70_41 : a56.eval (.tmp 41) = .bool (decide (most ≤ (A.length : Int))) := e56.2.2.2.2.2.2.2.2.2.1
    refine wp_cond_false (s70_41.trans (by rw [y61])) ?_
    refine wp_skip ?_
    repeat (with_reducible refine block_norm ?_)
    refine hK53 _ _ ?_
    have s71_0 := ((q56 0 rfl).trans s54_0)
    have hb_72 := (Ext.keep t56 hb_55)
    have s73_10 := ((q56 10 rfl).trans ((q51 10 rfl).trans ((q49 10 rfl).trans s47_10)))
    refine wp_seq ?_
    refine rw2 mixed 69 7 10 49 (App w56 119 3 (A.length + 1) (Value.slice (some ⟨row, 0, none⟩) A.length cap).ownBlock ((flat nvs A) ++ [.int .i64 l, .int .i64 lo, .int .i64 hi])) (AppS w56 119 3 (A.length + 1) (Value.slice (some ⟨row, 0, none⟩) A.length cap).ownBlock ((flat nvs A) ++ [.int .i64 l, .int .i64 lo, .int .i64 hi]) b 123 (fun vQ => List.set [.slice (some ⟨row, 0, none⟩) A.length cap, .map (some bm), .int .i64 most] 0 vQ)) (fun {_ _ _} h k => App.ext h k) (fun {_ _} h k => AppS.ext h k) [.eq (.pointer (some ⟨b, 0, none⟩)), .eq (.pointer (some ⟨b, 0, none⟩)), .eq (.pointer (some ⟨b, 0, none⟩)), .eq (.pointer (some ⟨b, 0, none⟩)), .eq (.slice (some ⟨row, 0, none⟩) A.length cap), .eq (.agg #[.int .i64 l, .int .i64 lo, .int .i64 hi]), .new w56.heap.size (fun _ hQ => hQ) (fun bQ => .slice (some ⟨bQ, 0, none⟩) 1 1) (.cells #[.int .i64 l, .int .i64 lo, .int .i64 hi] 119), .ok, .eq (.pointer (some ⟨b, 0, none⟩)), .eq (.pointer (some ⟨b, 0, none⟩)), .any] [[(0, none)], [(0, none)], [(43, some 1)], [(44, some 2)], [(45, some 3)], [(10, none)], [(47, some 5)], [(46, some 4), (48, some 6)], [(42, some 0)], [(50, some 8)], [(51, some 9), (49, some 7)]] d56 z56 (by kernel_rfl) rfl rfl ⟨Ov rfl rfl fun _ _ T ⟨k0, _⟩ => ex_move (k0.trans s71_0),
     Z (hI := fun _ _ hQ => hQ) rfl (by kernel_rfl) rfl fun _ _ T ⟨k0, _⟩ => ex_move (k0.trans s71_0),
     Z (hI := fun _ _ hQ => hQ) rfl (by kernel_rfl) rfl fun _ _ T ⟨k43, _⟩ => ex_nilCheck k43,
     Z (hI := fun _ _ hQ => hQ) rfl (by kernel_rfl) rfl fun _ _ T ⟨k44, _⟩ => ex_fieldAddr k44 (fa_123_0 _ _ _),
     Z (hI := fun _ _ hQ => hQ) rfl (by kernel_rfl) rfl fun _ _ T ⟨k45, _⟩ => ex_load k45 (Try.isAgg120 _) (cell_of (Ext.keep T hb_72) rfl),
     Z (hI := fun _ _ hQ => hQ) rfl (by kernel_rfl) rfl fun _ _ T ⟨k10, _⟩ => ex_loadAgg (cs := [.int .i64 l, .int .i64 lo, .int .i64 hi]) (k10.trans s73_10) (Try.isAgg119 _) (Try.sizeOf119 _) (cells_of (off := 0) (Ext.keep T t30.here_59) rfl),
     Znew (hI := fun _ _ hQ => hQ) rfl (by kernel_rfl) rfl fun _ _ T ⟨k47, _⟩ => exl_buildSlice (cons_parts k47 nil_parts) (bs_120_1_0AIi64Ii64Ii64E l lo hi _),
     Zw (m := 0) rfl (by kernel_rfl) (by kernel_rfl) fun _ _ I ⟨k46, ⟨bQ, k48, _, hbQ⟩, _⟩ => .plain rfl (app_step (m := 1) (news := [.int .i64 l, .int .i64 lo, .int .i64 hi]) el_120 ho_57 I k46 k48 rfl (news_of hbQ) rfl (by omega) (by omega) fun v' w' h1 h2 => ⟨⟨h2, Inv2.here h1⟩, own_def h1.own⟩),
     Ov rfl rfl fun _ _ T ⟨k42, _⟩ => ex_nilCheck k42,
     Ov rfl rfl fun _ _ T ⟨k50, _⟩ => ex_fieldAddr k50 (fa_123_0 _ _ _),
     Zw (m := 1) rfl (by kernel_rfl) (by kernel_rfl) fun _ _ R1 ⟨k51, k49, _⟩ => .plain rfl (apps_step (Inv2.get R1 k49) hb_72 (fun eQ => (Ne.symm n_b_row) (Option.some.inj eQ)) (Try.sizeOf120 _) k51 (Nat.le_of_ble_eq_true rfl)),
     trivial⟩ ?_
    rintro a75 w75 d75 z75 ⟨⟨A75, cp75, hs75, ho75, hk75⟩, t75⟩ e75 q75
    have no76 := blk_no hk75 (lt_of hb_72) (fun (jQ : Nat) hQ (eQ : jQ = b) => (fun (eQ : some b = _) => n_b_row (Option.some.inj eQ)) (by rw [← eQ]; exact hQ.symm))
    have no77 := blk_no hk75 (MapF.lt hm_58) (fun (jQ : Nat) hQ (eQ : jQ = bm) => (fun (eQ : some bm = _) => (Ne.symm n_row_bm) (Option.some.inj eQ)) (by rw [← eQ]; exact hQ.symm))
    have no78 := blk_no hk75 (lt_of t30.here_59) (fun (jQ : Nat) hQ (eQ : jQ = b22) => (fun (eQ : some b22 = _) => (Ne.symm n25_row_b22) (Option.some.inj eQ)) (by rw [← eQ]; exact hQ.symm))
    have s79_0 := ((q75 0 rfl).trans s71_0)
    have s80_10 := ((q75 10 rfl).trans s73_10)
    have t30.here_81 := (Touch.keep t75 t30.here_59 (fun hQ => hQ.elim (fun eQ => (Ne.symm n23_b_b22) eQ) (fun (eQ : some b22 = _) => (Ne.symm n25_row_b22) (Option.some.inj eQ))))
    have hm_82 := (MapF.same hm_58 (t75.block _ (MapF.lt hm_58) (fun hQ => hQ.elim (fun eQ => (Ne.symm n_b_bm) eQ) (fun (eQ : some bm = _) => (Ne.symm n_row_bm) (Option.some.inj eQ)))))
    refine wp_seq ?_
    refine rw1 mixed 69 11 _ (fun {_ _} h k => MapPut.ext h k) [.eq (.pointer (some ⟨b, 0, none⟩)), .eq (.pointer (some ⟨b, 0, none⟩)), .eq (.pointer (some ⟨b, 1, none⟩)), .eq (.map (some bm)), .eq (.agg #[.int .i64 l, .int .i64 lo, .int .i64 hi]), .eq (.pointer (some ⟨b, 0, none⟩)), .eq (.pointer (some ⟨b, 0, none⟩)), .eq (.pointer (some ⟨b, 0, none⟩)), .eq (.slice A75 (A.length + 1) cp75), .eq (.int .i64 (A.length + 1 : Int)), .eq (.int .i64 ((A.length + 1 : Int) - 1)), .any] [[(0, none)], [(52, some 0)], [(53, some 1)], [(54, some 2)], [(10, none)], [(0, none)], [(57, some 5)], [(58, some 6)], [(59, some 7)], [(60, some 8)], [(61, some 9)], [(55, some 3), (56, some 4), (62, some 10)]] d75 z75 (by kernel_rfl) rfl ⟨Z (hI := fun _ _ hQ => hQ) rfl (by kernel_rfl) rfl fun _ _ T ⟨k0, _⟩ => ex_move (k0.trans s79_0),
     Z (hI := fun _ _ hQ => hQ) rfl (by kernel_rfl) rfl fun _ _ T ⟨k52, _⟩ => ex_nilCheck k52,
     Z (hI := fun _ _ hQ => hQ) rfl (by kernel_rfl) rfl fun _ _ T ⟨k53, _⟩ => ex_fieldAddr k53 (fa_123_1 _ _ _),
     Z (hI := fun _ _ hQ => hQ) rfl (by kernel_rfl) rfl fun _ _ T ⟨k54, _⟩ => ex_load k54 (Try.isAgg121 _) (cell_of (Ext.keep T hs75) rfl),
     Z (hI := fun _ _ hQ => hQ) rfl (by kernel_rfl) rfl fun _ _ T ⟨k10, _⟩ => ex_loadAgg (cs := [.int .i64 l, .int .i64 lo, .int .i64 hi]) (k10.trans s80_10) (Try.isAgg119 _) (Try.sizeOf119 _) (cells_of (off := 0) (Ext.keep T t30.here_81) rfl),
     Z (hI := fun _ _ hQ => hQ) rfl (by kernel_rfl) rfl fun _ _ T ⟨k0, _⟩ => ex_move (k0.trans s79_0),
     Z (hI := fun _ _ hQ => hQ) rfl (by kernel_rfl) rfl fun _ _ T ⟨k57, _⟩ => ex_nilCheck k57,
     Z (hI := fun _ _ hQ => hQ) rfl (by kernel_rfl) rfl fun _ _ T ⟨k58, _⟩ => ex_fieldAddr k58 (fa_123_0 _ _ _),
     Z (hI := fun _ _ hQ => hQ) rfl (by kernel_rfl) rfl fun _ _ T ⟨k59, _⟩ => ex_load k59 (Try.isAgg120 _) (cell_of (Ext.keep T hs75) rfl),
     Z (hI := fun _ _ hQ => hQ) rfl (by kernel_rfl) rfl fun _ _ T ⟨k60, _⟩ => ex_len (cons_ops k60 nil_ops) Try.underlying120,
     Z (hI := fun _ _ hQ => hQ) rfl (by kernel_rfl) rfl fun _ _ T ⟨k61, _⟩ => ex_sub64 k61 rfl (by omega),
     Zw (m := 0) rfl (by kernel_rfl) (by kernel_rfl) fun _ _ I ⟨k55, k56, k62, _⟩ => .plain rfl (mapu_step (xk := (l, lo, hi)) (yv := (A.length + 1 : Int) - 1) hm_82 nodeKey Try.underlying121 I k55 k56 k62),
     trivial⟩ ?_
    rintro a83 w83 d83 z83 ⟨o83, t83, hm83⟩ e83 q83
    have s84_0 := ((q83 0 rfl).trans s79_0)
    have hs75_85 := (Turn.keep t83 hs75 n_b_bm)
    refine rgs mixed 69 [.eq (.pointer (some ⟨b, 0, none⟩)), .eq (.pointer (some ⟨b, 0, none⟩)), .eq (.pointer (some ⟨b, 0, none⟩)), .eq (.slice A75 (A.length + 1) cp75), .eq (.int .i64 (A.length + 1 : Int)), .eq (.int .i64 ((A.length + 1 : Int) - 1)), .eq (.int .i64 ((A.length + 1 : Int) - 1)), .eq (.int .i64 0)] [[(0, none)], [(63, some 0)], [(64, some 1)], [(65, some 2)], [(66, some 3)], [(67, some 4)], [(68, some 5)], []] d83 z83 (by kernel_rfl) ⟨Ov rfl rfl fun _ _ T ⟨k0, _⟩ => ex_move (k0.trans s84_0),
     Ov rfl rfl fun _ _ T ⟨k63, _⟩ => ex_nilCheck k63,
     Ov rfl rfl fun _ _ T ⟨k64, _⟩ => ex_fieldAddr k64 (fa_123_0 _ _ _),
     Ov rfl rfl fun _ _ T ⟨k65, _⟩ => ex_load k65 (Try.isAgg120 _) (cell_of (Ext.keep T.ext hs75_85) rfl),
     Ov rfl rfl fun _ _ T ⟨k66, _⟩ => ex_len (cons_ops k66 nil_ops) Try.underlying120,
     Ov rfl rfl fun _ _ T ⟨k67, _⟩ => ex_sub64 k67 rfl (by omega),
     Ov rfl rfl fun _ _ T ⟨k68, _⟩ => ex_assign k68,
     Ov rfl rfl fun _ _ T _ => ex_assign rfl,
     trivial⟩ ?_
    intro a86 w86 d86 z86 t86 e86 q86
    refine wp_ret ?_
    have s87_8 : a86.eval (.tmp 8) = .int .i64 ((A.length + 1 : Int) - 1) := e86.2.2.2.2.2.2.1
    have s88_9 : a86.eval (.tmp 9) = .int .i64 0 := e86.2.2.2.2.2.2.2.1
    repeat (first | (with_reducible refine then_ret ?_) | (with_reducible refine block_ret ?_))
    refine rett (rs := [.tmp 8, .tmp 9]) (vs := [.int .i64 ((A.length + 1 : Int) - 1), .int .i64 0]) Try.results102 ⟨s87_8, ⟨s88_9, trivial⟩⟩ (by simp) d86 ?_
    have hs75_89 := (Ext.keep t86 hs75_85)
    have hm83_90 := (MapF.keep hm83 t86)
    have em : mkF A most (l, lo, hi) = (A ++ [(l, lo, hi)], (A.length : Int), 0) := by unfold mkF; rw [if_neg c7, hq40]; simp only []; rw [if_neg c61]
    rw [em]
    have ho75_91 := (own_keep (own_touch ho75 t83.touch (fun jQ hQ eQ => no77 jQ hQ eQ)) t86)
    obtain ⟨row', hrow', HA⟩ := ArenaAt.push (x := (l, lo, hi)) (by omega) hq40 hs75_89 ho75_91 (by omega) hm83_90 (by funext zQ; split <;> simp <;> omega)
    have x92 := (Touch.trans (Touch.turn (Touch.via x60 t75 (fun jQ hQ => hQ.elim (fun eQ => eQ ▸ (Or.inl (Or.inl rfl))) ((fun jQ hQ => by cases hQ; exact (Or.inl (Or.inr (Or.inr rfl)))) jQ))) t83 (Or.inl (Or.inr (Or.inl rfl)))) (Ext.touch t86))
    refine ⟨_, by simp, HA, ⟨x92, ?_⟩⟩
    rintro j (rfl | rfl | rfl)
    ·exact .inl (.inl rfl)
    ·exact .inl (.inr (.inl rfl))
    ·subst hrow'; rcases hk75 with h | ⟨q, h, hq⟩
     ·injection h with h; subst h; exact .inl (.inr (.inr rfl))
     ·injection h with h; subst h; exact .inr (Nat.le_trans (Touch.size x60) hq)
  ·skip
   have p94 := fr4 q1 q5 u18.past u19.past
   have p95 := fr4 u20.past u21.past u22.past u30.past
   have s93_0 := ((p95 0 rfl).trans ((p94 0 rfl).trans s0_0))
   have hb_96 := (Turn.keep t30 (Ext.keep t22 hb_24) n23_b_b22)
   have s97_10 : a22.eval (.tmp 10) = .pointer (some ⟨b22, 0, none⟩) := (u22.here _ rfl)
   have s98_10 := ((u30.past 10 rfl).trans s97_10)
   have hm_99 := (MapF.same (MapF.keep hm_28 t22) (t30.touch.block _ (MapF.lt (MapF.keep hm_28 t22)) n27_bm_b22))
   refine rgs mixed 69 [.eq (.pointer (some ⟨b, 0, none⟩)), .eq (.pointer (some ⟨b, 0, none⟩)), .eq (.pointer (some ⟨b, 1, none⟩)), .eq (.map (some bm)), .eq (.agg #[.int .i64 l, .int .i64 lo, .int .i64 hi]), .eq (.tuple #[.int .i64 q40, .bool true]), .eq (.tuple #[.int .i64 q40, .bool true]), .eq (.int .i64 q40), .eq (.bool true), .eq (.int .i64 q40), .eq (.bool true)] [[(0, none)], [(22, some 0)], [(23, some 1)], [(24, some 2)], [(10, none)], [(25, some 3), (26, some 4)], [(27, some 5)], [(21, some 6)], [(21, some 6)], [(28, some 7)], [(29, some 8)]] d31 z30 (by kernel_rfl) ⟨Ov rfl rfl fun _ _ T ⟨k0, _⟩ => ex_move (k0.trans s93_0),
    Ov rfl rfl fun _ _ T ⟨k22, _⟩ => ex_nilCheck k22,
    Ov rfl rfl fun _ _ T ⟨k23, _⟩ => ex_fieldAddr k23 (fa_123_1 _ _ _),
    Ov rfl rfl fun _ _ T ⟨k24, _⟩ => ex_load k24 (Try.isAgg121 _) (cell_of (Ext.keep T.ext hb_96) rfl),
    Ov rfl rfl fun _ _ T ⟨k10, _⟩ => ex_loadAgg (cs := [.int .i64 l, .int .i64 lo, .int .i64 hi]) (k10.trans s98_10) (Try.isAgg119 _) (Try.sizeOf119 _) (cells_of (off := 0) (Ext.keep T.ext t30.here) rfl),
    Ov rfl rfl fun _ _ T ⟨k25, k26, _⟩ => (ex_look_ok (xk := (l, lo, hi)) (MapF.keep hm_99 T.ext) nodeKey Try.underlying121 (zv_3 _) k25 k26).trans (by rw [hq40]; rfl),
    Ov rfl rfl fun _ _ T ⟨k27, _⟩ => ex_move k27,
    Ov rfl rfl fun _ _ T ⟨k21, _⟩ => ex_extract k21 rfl,
    Ov rfl rfl fun _ _ T ⟨k21, _⟩ => ex_extract k21 rfl,
    Ov rfl rfl fun _ _ T ⟨k28, _⟩ => ex_assign k28,
    Ov rfl rfl fun _ _ T ⟨k29, _⟩ => ex_assign k29,
    trivial⟩ ?_
   intro a100 w100 d100 z100 t100 e100 q100
   have s101_12 : a100.eval (.tmp 12) = .bool true := e100.2.2.2.2.2.2.2.2.2.2.1
   refine rgs mixed 69 [.eq (.bool true)] [[(12, none)]] d100 z100 (by kernel_rfl) ⟨Ov rfl rfl fun _ _ T ⟨k12, _⟩ => ex_move (k12.trans s101_12), trivial⟩ ?_
   intro a102 w102 d102 z102 t102 e102 q102
   have s103_30 : a102.eval (.tmp 30) = .bool true := e102.1
   refine wp_cond_true s103_30 ?_
   have s104_11 : a100.eval (.tmp 11) = .int .i64 q40 := e100.2.2.2.2.2.2.2.2.2.1
   have s105_11 := ((q102 11 rfl).trans s104_11)
   refine rgs mixed 69 [.eq (.int .i64 q40), .eq (.int .i64 q40), .eq (.int .i64 0)] [[(11, none)], [(31, some 0)], []] d102 z102 (by kernel_rfl) ⟨Ov rfl rfl fun _ _ T ⟨k11, _⟩ => ex_move (k11.trans s105_11), Ov rfl rfl fun _ _ T ⟨k31, _⟩ => ex_assign k31, Ov rfl rfl fun _ _ T _ => ex_assign rfl, trivial⟩ ?_
   intro a106 w106 d106 z106 t106 e106 q106
   refine wp_ret ?_
   have s107_8 : a106.eval (.tmp 8) = .int .i64 q40 := e106.2.1
   have s108_9 : a106.eval (.tmp 9) = .int .i64 0 := e106.2.2.1
   repeat (first | (with_reducible refine then_ret ?_) | (with_reducible refine block_ret ?_))
   refine rett (rs := [.tmp 8, .tmp 9]) (vs := [.int .i64 q40, .int .i64 0]) Try.results102 ⟨s107_8, ⟨s108_9, trivial⟩⟩ (by simp) d106 ?_
   have hb_109 := (Ext.keep t106 (Ext.keep t102 (Ext.keep t100 hb_96)))
   have hm_110 := (MapF.keep (MapF.keep (MapF.keep hm_99 t100) t102) t106)
   have em : mkF A most (l, lo, hi) = (A, q40, 0) := by unfold mkF; rw [if_neg c7, hq40]
   rw [em]
   have ho_111 := (own_keep (own_keep (own_keep (own_touch (own_keep ho_26 t22) t30.touch (fun jQ hQ eQ => n25_row_b22 ((Option.some.inj hQ).trans eQ))) t100) t102) t106)
   have x112 := (Touch.trans (Touch.trans (Touch.trans x41 (Ext.touch t100)) (Ext.touch t102)) (Ext.touch t106))
   exact ⟨_, rfl, ⟨bm, row, cap, hb_109, ho_111, ⟨_, hm_110⟩, rfl⟩, ⟨x112, fun _ h => .inl h⟩⟩

set_option maxRecDepth 100000 in
set_option maxHeartbeats 4000000 in
theorem c_cut {w : World} {b : Nat} {Fp : Nat → Prop} {A : List N3} {most : Int} (H : ArenaAt w b Fp A most) (n : Int) (h2 : 2 ≤ A.length) (hl : A.length ≤ 262144) (hN : (A.drop 2).Nodup) : Calls Try.prog 101 #[.pointer (some ⟨b, 0, none⟩), .int .i64 n] w fun e w' => e = .returned (.tuple #[]) ∧ ArenaAt w' b Fp (A.take (max n 2).toNat) most ∧ Mut Fp Fp w w' := by
 obtain ⟨kp, hkp⟩ : ∃ kp : Int, (if (2 : Int) > n then 2 else n) = kp := ⟨_, rfl⟩
 have hkp' : kp = max n 2 := by subst hkp; split <;> omega
 obtain ⟨bm, row, cap, hb_0, ho_0, ⟨nQ, hm_0⟩, rfl⟩ := H.ex
 have n_b_bm : b ≠ bm := ne_kind hb_0 (MapF.block hm_0).choose_spec.choose_spec
 obtain ⟨cur_0, hr_0⟩ := row_lt ho_0
 have hcap_0 := own_cap ho_0
 have n_b_row : b ≠ row := ne_type hb_0 hr_0 (by decide)
 have n_row_bm : row ≠ bm := ne_kind hr_0 (MapF.block hm_0).choose_spec.choose_spec
 refine enter 45 Try.ntmps101 Try.func101 rfl (Nat.le_of_ble_eq_true rfl) fun a0 d0 z0 hargs => ?_
 have s0_0 : a0.eval (.tmp 0) = .pointer (some ⟨b, 0, none⟩) := hargs 0 _ rfl
 have s0_1 : a0.eval (.tmp 1) = .int .i64 n := hargs 1 _ rfl
 have x0 := Touch.refl (fun k => k = b ∨ k = bm ∨ k = row) w
 refine wp_seq_k fun K1 hK1 => ?_
 refine rgs mixed 45 [.eq (.pointer (some ⟨b, 0, none⟩)), .eq (.bool false)] [[(0, none)], [(4, some 0)]] d0 z0 (by kernel_rfl) ⟨Ov rfl rfl fun _ _ T ⟨k0, _⟩ => ex_move (k0.trans s0_0), Ov rfl rfl fun _ _ T ⟨k4, _⟩ => ex_ptr_eql_nil k4 rfl (by kernel_rfl), trivial⟩ ?_
 intro a2 w2 d2 z2 t2 e2 q2
 have s3_5 : a2.eval (.tmp 5) = .bool false := e2.2.1
 refine wp_cond_false s3_5 ?_
 refine wp_skip ?_
 repeat (with_reducible refine block_norm ?_)
 refine hK1 _ _ ?_
 have s4_1 := ((q2 1 rfl).trans s0_1)
 refine rgs mixed 45 [.eq (.int .i64 n), .eq (.int .i64 kp), .eq (.int .i64 kp)] [[(1, none)], [(6, some 0)], [(7, some 1)]] d2 z2 (by kernel_rfl) ⟨Ov rfl rfl fun _ _ T ⟨k1, _⟩ => ex_move (k1.trans s4_1), Ov rfl rfl fun _ _ T ⟨k6, _⟩ => (ex_max (cons_ops k6 (cons_ops rfl nil_ops))).trans (by rw [← hkp]), Ov rfl rfl fun _ _ T ⟨k7, _⟩ => ex_assign k7, trivial⟩ ?_
 intro a5 w5 d5 z5 t5 e5 q5
 refine wp_block ?_
 have ho_6 := (own_keep (own_keep ho_0 t2) t5)
 have hm_7 := (MapF.keep (MapF.keep hm_0 t2) t5)
 have s9_0 := ((q5 0 rfl).trans ((q2 0 rfl).trans s0_0))
 have s10_1 : a5.eval (.tmp 1) = .int .i64 kp := e5.2.2.1
 have x11 := (Touch.trans (Touch.trans x0 (Ext.touch t2)) (Ext.touch t5))
 have hb_12 := (Ext.keep t5 (Ext.keep t2 hb_0))
 refine wp_loopg (σ := Nat) (fun nQ aQ wQ => ∃ m : Nat, ∃ cnt : Nat, nQ = m ∧
  aQ.defers = [] ∧
  aQ.tmps.size = 45 ∧
  aQ.eval (.tmp 0) = .pointer (some ⟨b, 0, none⟩) ∧
  aQ.eval (.tmp 1) = .int .i64 kp ∧
  Touch (fun k => k = b ∨ k = bm ∨ k = row) w wQ ∧
  wQ.heap[b]? = some (.cells #[.slice (some ⟨row, 0, none⟩) m cap, .map (some bm), .int .i64 most] 123 (0, 0)) ∧
  wQ.ownsRow 0 119 3 (.slice (some ⟨row, 0, none⟩) m cap) m (flat nvs (A.take m)) ∧
  MapF wQ bm nk iv (ixOf (A.take m)) cnt ∧
  (m ≤ A.length) ∧
  (2 ≤ m) ∧
  (kp ≤ m ∨ m = A.length) ∧
  (m = (A.take m).length)) (fun nQ => nQ) _ ⟨A.length, nQ, rfl, d5, z5, s9_0, s10_1, x11, (hb_12.trans (by first | rfl | (congr 1; omega) | (simp; omega) | simp)), (by rw [List.take_length]; exact ho_6), (by rw [List.take_length]; exact hm_7), Nat.le_refl _, h2, .inr rfl, by rw [List.take_length]⟩ ?_
 rintro nQ8 a8 w8 ⟨m, cnt, hmu8, d8, z8, s8_0, s8_1, x8, hb_13, f14, f15, hm1, hm2, hm3, hm4⟩
 refine wp_seq_k fun K16 hK16 => ?_
 refine rgs mixed 45 [.eq (.pointer (some ⟨b, 0, none⟩)), .eq (.pointer (some ⟨b, 0, none⟩)), .eq (.pointer (some ⟨b, 0, none⟩)), .eq (.slice (some ⟨row, 0, none⟩) m cap), .eq (.int .i64 (m : Int)), .eq (.int .i64 kp), .eq (.bool (decide (kp < (m : Int))))] [[(0, none)], [(8, some 0)], [(9, some 1)], [(10, some 2)], [(11, some 3)], [(1, none)], [(12, some 4), (13, some 5)]] d8 z8 (by kernel_rfl) ⟨Ov rfl rfl fun _ _ T ⟨k0, _⟩ => ex_move (k0.trans s8_0),
  Ov rfl rfl fun _ _ T ⟨k8, _⟩ => ex_nilCheck k8,
  Ov rfl rfl fun _ _ T ⟨k9, _⟩ => ex_fieldAddr k9 (fa_123_0 _ _ _),
  Ov rfl rfl fun _ _ T ⟨k10, _⟩ => ex_load k10 (Try.isAgg120 _) (cell_of (Ext.keep T.ext hb_13) rfl),
  Ov rfl rfl fun _ _ T ⟨k11, _⟩ => ex_len (cons_ops k11 nil_ops) Try.underlying120,
  Ov rfl rfl fun _ _ T ⟨k1, _⟩ => ex_move (k1.trans s8_1),
  Ov rfl rfl fun _ _ T ⟨k12, k13, _⟩ => ex_gtr k12 k13,
  trivial⟩ ?_
 intro a17 w17 d17 z17 t17 e17 q17
 by_cases c18 : kp < (m : Int)
 ·have y18 := decide_eq_true c18
  have s19_14 : a17.eval (.tmp 14) = .bool (decide (kp < (m : Int))) := e17.2.2.2.2.2.2.1
  refine wp_cond_true (s19_14.trans (by rw [y18])) ?_
  refine wp_skip ?_
  repeat (with_reducible refine block_norm ?_)
  refine hK16 _ _ ?_
  refine wp_seq_k fun K20 hK20 => ?_
  refine wp_block ?_
  have s21_0 := ((q17 0 rfl).trans s8_0)
  have hb_22 := (Ext.keep t17 hb_13)
  have f14_23 := (own_keep f14 t17)
  have f15_24 := (MapF.keep f15 t17)
  refine rw1 mixed 45 16 _ (fun {_ _} h k => MapPut.ext h k) [.eq (.pointer (some ⟨b, 0, none⟩)), .eq (.pointer (some ⟨b, 0, none⟩)), .eq (.pointer (some ⟨b, 1, none⟩)), .eq (.map (some bm)), .eq (.pointer (some ⟨b, 0, none⟩)), .eq (.pointer (some ⟨b, 0, none⟩)), .eq (.pointer (some ⟨b, 0, none⟩)), .eq (.slice (some ⟨row, 0, none⟩) m cap), .eq (.pointer (some ⟨b, 0, none⟩)), .eq (.pointer (some ⟨b, 0, none⟩)), .eq (.pointer (some ⟨b, 0, none⟩)), .eq (.slice (some ⟨row, 0, none⟩) m cap), .eq (.int .i64 (m : Int)), .eq (.int .i64 ((m : Int) - 1)), .eq (.pointer (some ⟨row, Int.toNat ((m : Int) - 1) * 3, none⟩)), .eq (.agg #[.int .i64 ((at_ (A.take m) n0 ((m : Int) - 1)).1), .int .i64 ((at_ (A.take m) n0 ((m : Int) - 1)).2.1), .int .i64 ((at_ (A.take m) n0 ((m : Int) - 1)).2.2)]), .any] [[(0, none)], [(29, some 0)], [(30, some 1)], [(31, some 2)], [(0, none)], [(33, some 4)], [(34, some 5)], [(35, some 6)], [(0, none)], [(37, some 8)], [(38, some 9)], [(39, some 10)], [(40, some 11)], [(41, some 12)], [(36, some 7), (42, some 13)], [(43, some 14)], [(32, some 3), (44, some 15)]] d17 z17 (by kernel_rfl) rfl ⟨Z (hI := fun _ _ hQ => hQ) rfl (by kernel_rfl) rfl fun _ _ T ⟨k0, _⟩ => ex_move (k0.trans s21_0),
   Z (hI := fun _ _ hQ => hQ) rfl (by kernel_rfl) rfl fun _ _ T ⟨k29, _⟩ => ex_nilCheck k29,
   Z (hI := fun _ _ hQ => hQ) rfl (by kernel_rfl) rfl fun _ _ T ⟨k30, _⟩ => ex_fieldAddr k30 (fa_123_1 _ _ _),
   Z (hI := fun _ _ hQ => hQ) rfl (by kernel_rfl) rfl fun _ _ T ⟨k31, _⟩ => ex_load k31 (Try.isAgg121 _) (cell_of (Ext.keep T hb_22) rfl),
   Z (hI := fun _ _ hQ => hQ) rfl (by kernel_rfl) rfl fun _ _ T ⟨k0, _⟩ => ex_move (k0.trans s21_0),
   Z (hI := fun _ _ hQ => hQ) rfl (by kernel_rfl) rfl fun _ _ T ⟨k33, _⟩ => ex_nilCheck k33,
   Z (hI := fun _ _ hQ => hQ) rfl (by kernel_rfl) rfl fun _ _ T ⟨k34, _⟩ => ex_fieldAddr k34 (fa_123_0 _ _ _),
   Z (hI := fun _ _ hQ => hQ) rfl (by kernel_rfl) rfl fun _ _ T ⟨k35, _⟩ => ex_load k35 (Try.isAgg120 _) (cell_of (Ext.keep T hb_22) rfl),
   Z (hI := fun _ _ hQ => hQ) rfl (by kernel_rfl) rfl fun _ _ T ⟨k0, _⟩ => ex_move (k0.trans s21_0),
   Z (hI := fun _ _ hQ => hQ) rfl (by kernel_rfl) rfl fun _ _ T ⟨k37, _⟩ => ex_nilCheck k37,
   Z (hI := fun _ _ hQ => hQ) rfl (by kernel_rfl) rfl fun _ _ T ⟨k38, _⟩ => ex_fieldAddr k38 (fa_123_0 _ _ _),
   Z (hI := fun _ _ hQ => hQ) rfl (by kernel_rfl) rfl fun _ _ T ⟨k39, _⟩ => ex_load k39 (Try.isAgg120 _) (cell_of (Ext.keep T hb_22) rfl),
   Z (hI := fun _ _ hQ => hQ) rfl (by kernel_rfl) rfl fun _ _ T ⟨k40, _⟩ => ex_len (cons_ops k40 nil_ops) Try.underlying120,
   Z (hI := fun _ _ hQ => hQ) rfl (by kernel_rfl) rfl fun _ _ T ⟨k41, _⟩ => ex_sub64 k41 rfl (by omega),
   Z (hI := fun _ _ hQ => hQ) rfl (by kernel_rfl) rfl fun _ _ T ⟨k36, k42, _⟩ => ex_ixa Try.underlying120 (Try.sizeOf119 _) k36 rfl k42 (by omega) (by omega),
   Z (hI := fun _ _ hQ => hQ) rfl (by kernel_rfl) rfl fun _ _ T ⟨k43, _⟩ => ex_loadAgg (cs := [.int .i64 ((at_ (A.take m) n0 ((m : Int) - 1)).1), .int .i64 ((at_ (A.take m) n0 ((m : Int) - 1)).2.1), .int .i64 ((at_ (A.take m) n0 ((m : Int) - 1)).2.2)]) k43 (Try.isAgg119 _) (Try.sizeOf119 _) (own_ats (us := [.int .i64 ((at_ (A.take m) n0 ((m : Int) - 1)).1), .int .i64 ((at_ (A.take m) n0 ((m : Int) - 1)).2.1), .int .i64 ((at_ (A.take m) n0 ((m : Int) - 1)).2.2)]) (own_keep f14_23 T) rfl nvs3 (at_some' (d := n0) (hm4) (by omega) (by omega)) 0 rfl),
   Zw (m := 0) rfl (by kernel_rfl) (by kernel_rfl) fun _ _ I ⟨k32, k44, _⟩ => .plain rfl (mapd_step (xk := (at_ (A.take m) n0 ((m : Int) - 1))) f15_24 nodeKey Try.underlying121 I k32 k44),
   trivial⟩ ?_
  rintro a25 w25 d25 z25 ⟨o25, t25, hm25⟩ e25 q25
  repeat (with_reducible refine block_norm ?_)
  refine hK20 _ _ ?_
  have s26_0 := ((q25 0 rfl).trans s21_0)
  have hb_27 := (Turn.keep t25 hb_22 n_b_bm)
  refine rt mixed 45 b 14 _ [.eq (.pointer (some ⟨b, 0, none⟩)), .eq (.pointer (some ⟨b, 0, none⟩)), .eq (.pointer (some ⟨b, 0, none⟩)), .eq (.pointer (some ⟨b, 0, none⟩)), .eq (.slice (some ⟨row, 0, none⟩) m cap), .eq (.pointer (some ⟨b, 0, none⟩)), .eq (.pointer (some ⟨b, 0, none⟩)), .eq (.pointer (some ⟨b, 0, none⟩)), .eq (.slice (some ⟨row, 0, none⟩) m cap), .eq (.int .i64 (m : Int)), .eq (.int .i64 ((m : Int) - 1)), .eq (.slice (some ⟨row, 0, none⟩) (((m : Int) - 1).toNat) cap), .eq (.pointer (some ⟨b, 0, none⟩)), .eq (.pointer (some ⟨b, 0, none⟩)), .any] [[(0, none)], [(0, none)], [(16, some 1)], [(17, some 2)], [(18, some 3)], [(0, none)], [(20, some 5)], [(21, some 6)], [(22, some 7)], [(23, some 8)], [(24, some 9)], [(19, some 4), (25, some 10)], [(15, some 0)], [(27, some 12)], [(28, some 13), (26, some 11)]] d25 z25 (by kernel_rfl) rfl ⟨Oh rfl (by kernel_rfl) rfl fun _ _ T ⟨k0, _⟩ => ex_move (k0.trans s26_0),
   Oh rfl (by kernel_rfl) rfl fun _ _ T ⟨k0, _⟩ => ex_move (k0.trans s26_0),
   Oh rfl (by kernel_rfl) rfl fun _ _ T ⟨k16, _⟩ => ex_nilCheck k16,
   Oh rfl (by kernel_rfl) rfl fun _ _ T ⟨k17, _⟩ => ex_fieldAddr k17 (fa_123_0 _ _ _),
   Oh rfl (by kernel_rfl) rfl fun _ _ T ⟨k18, _⟩ => ex_load k18 (Try.isAgg120 _) (cell_of (Ext.keep T hb_27) rfl),
   Oh rfl (by kernel_rfl) rfl fun _ _ T ⟨k0, _⟩ => ex_move (k0.trans s26_0),
   Oh rfl (by kernel_rfl) rfl fun _ _ T ⟨k20, _⟩ => ex_nilCheck k20,
   Oh rfl (by kernel_rfl) rfl fun _ _ T ⟨k21, _⟩ => ex_fieldAddr k21 (fa_123_0 _ _ _),
   Oh rfl (by kernel_rfl) rfl fun _ _ T ⟨k22, _⟩ => ex_load k22 (Try.isAgg120 _) (cell_of (Ext.keep T hb_27) rfl),
   Oh rfl (by kernel_rfl) rfl fun _ _ T ⟨k23, _⟩ => ex_len (cons_ops k23 nil_ops) Try.underlying120,
   Oh rfl (by kernel_rfl) rfl fun _ _ T ⟨k24, _⟩ => ex_sub64 k24 rfl (by omega),
   Oh rfl (by kernel_rfl) rfl fun _ _ T ⟨k19, k25, _⟩ => ex_slice_h Try.underlying120 (Try.sizeOf119 _) k19 k25 (by omega) (by omega),
   Oh rfl (by kernel_rfl) rfl fun _ _ T ⟨k15, _⟩ => ex_nilCheck k15,
   Oh rfl (by kernel_rfl) rfl fun _ _ T ⟨k27, _⟩ => ex_fieldAddr k27 (fa_123_0 _ _ _),
   Ot (cs := [.slice (some ⟨row, 0, none⟩) m cap, .map (some bm), .int .i64 most]) (vs := [.slice (some ⟨row, 0, none⟩) (((m : Int) - 1).toNat) cap]) (cs' := [.slice (some ⟨row, 0, none⟩) (((m : Int) - 1).toNat) cap, .map (some bm), .int .i64 most]) (by kernel_rfl) hb_27 Try.sizeOf120 rfl rfl (by decide) (Nat.le_of_ble_eq_true rfl) rfl rfl fun _ _ T ⟨k28, k26, _⟩ => ⟨k28, k26⟩,
   trivial⟩ ?_
  intro a28 w28 d28 z28 t28 e28 q28
  repeat (with_reducible refine block_norm ?_)
  have s29_0 := ((q28 0 rfl).trans s26_0)
  have s30_1 := ((q28 1 rfl).trans ((q25 1 rfl).trans ((q17 1 rfl).trans s8_1)))
  have x31 := (Touch.turn (Touch.turn (Touch.trans x8 (Ext.touch t17)) t25 (Or.inl (Or.inr (Or.inl rfl)))) t28 (Or.inl (Or.inl rfl)))
  have f14_32 := (own_touch (own_touch f14_23 t25.touch (fun jQ hQ eQ => n_row_bm ((Option.some.inj hQ).trans eQ))) t28.touch (fun jQ hQ eQ => (Ne.symm n_b_row) ((Option.some.inj hQ).trans eQ)))
  have ow33 : w28.ownsRow 0 119 3 (.slice (some ⟨row, 0, none⟩) (m - 1) cap) (m - 1) (flat nvs (A.take (m - 1))) := by
   have e : (A.take m).take (m - 1) = A.take (m - 1) := by rw [List.take_take]; congr 1; omega
   rw [← e]; exact own_cut f14_32 nvs3 (by omega)
  have hm25_34 := (MapF.same hm25 (t28.touch.block _ (MapF.lt hm25) (Ne.symm n_b_bm)))
  have em35 : (fun zQ => if zQ = (at_ (A.take m) n0 ((m : Int) - 1)) then none else ixOf (A.take m) zQ) = ixOf (A.take (m - 1)) := by
   have q := ix_take (A := A) (m := m - 1) (by omega) (by omega) hN
   rw [show m - 1 + 1 = m by omega] at q; rw [← q]; funext zQ; rw [show ((m - 1 : Nat) : Int) = (m : Int) - 1 by omega]
  have mm35 := hm25_34
  rw [em35] at mm35
  refine then_norm ?_
  refine ⟨_, ⟨m - 1, _, rfl, d28, z28, s29_0, s30_1, x31, (t28.here.trans (by first | rfl | (congr 1; omega) | (simp; omega) | simp)), ow33, mm35, by omega, by omega, by omega, by rw [List.length_take]; omega⟩, ?_⟩; (show _ < _); rw [hmu8]; exact by omega
 ·have y18 := decide_eq_false c18
  have s36_14 : a17.eval (.tmp 14) = .bool (decide (kp < (m : Int))) := e17.2.2.2.2.2.2.1
  refine wp_cond_false (s36_14.trans (by rw [y18])) ?_
  refine wp_exit ?_
  repeat (first | (with_reducible refine then_exit ?_) | (with_reducible refine block_here ?_) | (with_reducible refine block_past rfl ?_))
  refine end0 Try.results101 d17 ?_
  have hb_37 := (Ext.keep t17 hb_13)
  have f14_38 := (own_keep f14 t17)
  have f15_39 := (MapF.keep f15 t17)
  have em : (A.take (max n 2).toNat) = A.take m := by
   by_cases hq : (A.length : Int) ≤ kp
   ·rw [List.take_of_length_le (by omega), List.take_of_length_le (by omega)]
   ·congr 1; omega
  rw [em]
  have el : (A.take m).length = m := by rw [List.length_take]; omega
  have x40 := (Touch.trans x8 (Ext.touch t17))
  exact ⟨rfl, ⟨bm, row, cap, by rw [el]; exact hb_37, by rw [el]; exact f14_38, ⟨_, f15_39⟩, rfl⟩, x40, fun _ hQ => .inl hQ⟩

end Go.Proofs.Yticodddigaiipaa
