/-
  Contracts of functions of the given program, each proved by a walk through its code: what a call answers, and what it leaves of memory; conditions: those ahead of each theorem's colon.
-/
import Derived.Test.YticodddigaiipaaE1
set_option linter.unusedVariables false
set_option linter.unusedSimpArgs false
namespace Go.Proofs.Yticodddigaiipaa
open Go.RowKit
theorem bd_24_  (w : World) : (Instr.build 24 #[]).run Try.prog w = .ok (.agg #[.int .u32 0, .int .i64 0]) w := by kernel_rfl
set_option maxRecDepth 100000 in
set_option maxHeartbeats 4000000 in
theorem a_len_nil {w : World} : Calls Try.prog 16 #[.pointer none] w fun e w' => e = .returned (.int .i64 0) ∧ Ext w w' := by
  refine enter 10 Try.ntmps16 Try.func16 rfl (Nat.le_of_ble_eq_true rfl) fun a0 d0 z0 hargs => ?_
  have s0_0 : a0.eval (.tmp 0) = .pointer none := hargs 0 _ rfl
  have x0 := Touch.refl NoF w
  refine rgs mixed 10 [.eq (.int .i64 0)] [[]] d0 z0 (by kernel_rfl) ⟨Ov rfl rfl fun _ _ T _ => ex_assign rfl, trivial⟩ ?_
  intro a1 w1 d1 z1 t1 e1 q1
  refine wp_seq_k fun K2 hK2 => ?_
  have s3_0 := ((q1 0 rfl).trans s0_0)
  refine rgs mixed 10 [.eq (.pointer none), .eq (.bool true)] [[(0, none)], [(3, some 0)]] d1 z1 (by kernel_rfl) ⟨Ov rfl rfl fun _ _ T ⟨k0, _⟩ => ex_move (k0.trans s3_0), Ov rfl rfl fun _ _ T ⟨k3, _⟩ => ex_ptr_eql_nil k3 rfl (by kernel_rfl), trivial⟩ ?_
  intro a4 w4 d4 z4 t4 e4 q4
  have s5_4 : a4.eval (.tmp 4) = .bool true := e4.2.1
  refine wp_cond_true s5_4 ?_
  refine rgs mixed 10 [.eq (.int .i64 0)] [[]] d4 z4 (by kernel_rfl) ⟨Ov rfl rfl fun _ _ T _ => ex_assign rfl, trivial⟩ ?_
  intro a6 w6 d6 z6 t6 e6 q6
  refine wp_ret ?_
  have s7_2 : a6.eval (.tmp 2) = .int .i64 0 := e6.1
  repeat (first | (with_reducible refine then_ret ?_) | (with_reducible refine block_ret ?_))
  refine retl (rs := [.tmp 2]) Try.results16 ⟨s7_2, trivial⟩ d6 ?_
  have x8 := (Touch.trans (Touch.trans (Touch.trans x0 (Ext.touch t1)) (Ext.touch t4)) (Ext.touch t6))
  exact ⟨rfl, (x8).ext⟩

set_option maxRecDepth 100000 in
set_option maxHeartbeats 4000000 in
theorem c_Cube_nil {w : World} (A : Option Addr) (n c : Nat) : Calls Try.prog 56 #[.pointer none, .slice A n c] w fun e w' => e = .returned (.tuple #[.int .i64 0, .int .i64 2]) ∧ Ext w w' := by
  refine enter 82 Try.ntmps56 Try.func56 rfl (Nat.le_of_ble_eq_true rfl) fun a0 d0 z0 hargs => ?_
  have s0_0 : a0.eval (.tmp 0) = .pointer none := hargs 0 _ rfl
  have s0_1 : a0.eval (.tmp 1) = .slice A n c := hargs 1 _ rfl
  have x0 := Touch.refl NoF w
  refine rgs mixed 82 [.eq (.int .i64 0), .eq (.int .i64 0)] [[], []] d0 z0 (by kernel_rfl) ⟨Ov rfl rfl fun _ _ T _ => ex_assign rfl, Ov rfl rfl fun _ _ T _ => ex_assign rfl, trivial⟩ ?_
  intro a1 w1 d1 z1 t1 e1 q1
  refine wp_seq_k fun K2 hK2 => ?_
  have s3_0 := ((q1 0 rfl).trans s0_0)
  refine rgs mixed 82 [.eq (.pointer none), .eq (.bool true)] [[(0, none)], [(14, some 0)]] d1 z1 (by kernel_rfl) ⟨Ov rfl rfl fun _ _ T ⟨k0, _⟩ => ex_move (k0.trans s3_0), Ov rfl rfl fun _ _ T ⟨k14, _⟩ => ex_ptr_eql_nil k14 rfl (by kernel_rfl), trivial⟩ ?_
  intro a4 w4 d4 z4 t4 e4 q4
  have s5_15 : a4.eval (.tmp 15) = .bool true := e4.2.1
  refine wp_cond_true s5_15 ?_
  refine rgs mixed 82 [.eq (.int .i64 0), .eq (.int .i64 2)] [[], []] d4 z4 (by kernel_rfl) ⟨Ov rfl rfl fun _ _ T _ => ex_assign rfl, Ov rfl rfl fun _ _ T _ => ex_assign rfl, trivial⟩ ?_
  intro a6 w6 d6 z6 t6 e6 q6
  refine wp_ret ?_
  have s7_4 : a6.eval (.tmp 4) = .int .i64 0 := e6.1
  have s8_5 : a6.eval (.tmp 5) = .int .i64 2 := e6.2.1
  repeat (first | (with_reducible refine then_ret ?_) | (with_reducible refine block_ret ?_))
  refine rett (rs := [.tmp 4, .tmp 5]) (vs := [.int .i64 0, .int .i64 2]) Try.results56 ⟨s7_4, ⟨s8_5, trivial⟩⟩ (by simp) d6 ?_
  have x9 := (Touch.trans (Touch.trans (Touch.trans x0 (Ext.touch t1)) (Ext.touch t4)) (Ext.touch t6))
  exact ⟨rfl, (x9).ext⟩

set_option maxRecDepth 100000 in
set_option maxHeartbeats 4000000 in
theorem c_Filter_nil {w : World} (fda fdb fsa fsb fp fsl fsh fdl fdh : Int) : Calls Try.prog 15 #[.pointer none, .agg #[.int .u32 fda, .int .i64 fdb, .int .u32 fsa, .int .i64 fsb, .int .i64 fp, .int .u16 fsl, .int .u16 fsh, .int .u16 fdl, .int .u16 fdh]] w fun e w' => e = .returned (.tuple #[.int .i64 0, .int .i64 2]) ∧ Ext w w' := by
  refine enter 24 Try.ntmps15 Try.func15 rfl (Nat.le_of_ble_eq_true rfl) fun a0 d0 z0 hargs => ?_
  have s0_0 : a0.eval (.tmp 0) = .pointer none := hargs 0 _ rfl
  have s0_1 : a0.eval (.tmp 1) = .agg #[.int .u32 fda, .int .i64 fdb, .int .u32 fsa, .int .i64 fsb, .int .i64 fp, .int .u16 fsl, .int .u16 fsh, .int .u16 fdl, .int .u16 fdh] := hargs 1 _ rfl
  have x0 := Touch.refl NoF w
  refine wp_seq ?_
  refine seq_begin ?_
  refine sbox z0 rfl s0_0 ?_; intro b1 w1 a1 t1 g1 hb1 u1 z1
  have yb1_2 := Nat.le_trans (Touch.size x0) g1
  refine sbox z1 rfl ((u1.past 1 rfl).trans s0_1) ?_; intro b3 w3 a3 t3 g3 hb3 u3 z3
  have n4_b1_b3 := ne_lt (lt_of hb1) g3
  have x6 := (Touch.trans x0 (Ext.touch t1))
  have yb3_5 := Nat.le_trans (Touch.size x6) g3
  refine sp z3 rfl rfl (ex_assign rfl) ?_; intro a7 u7 z7
  refine sp z7 rfl rfl (ex_assign rfl) ?_; intro a8 u8 z8
  have d9 := (u8.defs.trans (u7.defs.trans (u3.defs.trans (u1.defs.trans d0))))
  refine seq_end ?_
  refine then_norm ?_
  refine wp_seq_k fun K10 hK10 => ?_
  have s11_2 : a1.eval (.tmp 2) = .pointer (some ⟨b1, 0, none⟩) := (u1.here _ rfl)
  have s12_2 := ((u8.past 2 rfl).trans ((u7.past 2 rfl).trans ((u3.past 2 rfl).trans s11_2)))
  have hb1_13 := (Ext.keep t3 hb1)
  refine rgs mixed 24 [.eq (.pointer none), .eq (.bool true)] [[(2, none)], [(7, some 0)]] d9 z8 (by kernel_rfl) ⟨Ov rfl rfl fun _ _ T ⟨k2, _⟩ => ex_load (k2.trans s12_2) (Try.isAgg34 _) (cell_of (Ext.keep T.ext hb1_13) rfl), Ov rfl rfl fun _ _ T ⟨k7, _⟩ => ex_ptr_eql_nil k7 rfl (by kernel_rfl), trivial⟩ ?_
  intro a14 w14 d14 z14 t14 e14 q14
  have s15_8 : a14.eval (.tmp 8) = .bool true := e14.2.1
  refine wp_cond_true s15_8 ?_
  refine rgs mixed 24 [.eq (.int .i64 0), .eq (.int .i64 2)] [[], []] d14 z14 (by kernel_rfl) ⟨Ov rfl rfl fun _ _ T _ => ex_assign rfl, Ov rfl rfl fun _ _ T _ => ex_assign rfl, trivial⟩ ?_
  intro a16 w16 d16 z16 t16 e16 q16
  refine wp_ret ?_
  have s17_4 : a16.eval (.tmp 4) = .int .i64 0 := e16.1
  have s18_5 : a16.eval (.tmp 5) = .int .i64 2 := e16.2.1
  repeat (first | (with_reducible refine then_ret ?_) | (with_reducible refine block_ret ?_))
  refine rett (rs := [.tmp 4, .tmp 5]) (vs := [.int .i64 0, .int .i64 2]) Try.results15 ⟨s17_4, ⟨s18_5, trivial⟩⟩ (by simp) d16 ?_
  have x19 := (Touch.trans (Touch.trans (Touch.trans x6 (Ext.touch t3)) (Ext.touch t14)) (Ext.touch t16))
  exact ⟨rfl, (x19).ext⟩

set_option maxRecDepth 100000 in
set_option maxHeartbeats 4000000 in
theorem c_Header_nil {w : World} (hd hs hp hsp hdp : Int) : Calls Try.prog 17 #[.pointer none, .agg #[.int .u32 hd, .int .u32 hs, .int .u8 hp, .int .u16 hsp, .int .u16 hdp]] w fun e w' => e = .returned (.tuple #[.int .i64 0, .int .i64 2]) ∧ Ext w w' := by
  refine enter 25 Try.ntmps17 Try.func17 rfl (Nat.le_of_ble_eq_true rfl) fun a0 d0 z0 hargs => ?_
  have s0_0 : a0.eval (.tmp 0) = .pointer none := hargs 0 _ rfl
  have s0_1 : a0.eval (.tmp 1) = .agg #[.int .u32 hd, .int .u32 hs, .int .u8 hp, .int .u16 hsp, .int .u16 hdp] := hargs 1 _ rfl
  have x0 := Touch.refl NoF w
  refine wp_seq ?_
  refine seq_begin ?_
  refine sbox z0 rfl s0_1 ?_; intro b1 w1 a1 t1 g1 hb1 u1 z1
  have yb1_2 := Nat.le_trans (Touch.size x0) g1
  refine sp z1 rfl rfl (ex_assign rfl) ?_; intro a3 u3 z3
  refine sp z3 rfl rfl (ex_assign rfl) ?_; intro a4 u4 z4
  have d5 := (u4.defs.trans (u3.defs.trans (u1.defs.trans d0)))
  refine seq_end ?_
  refine then_norm ?_
  refine rgs mixed 25 [.eq (.slice none 0 0)] [[]] d5 z4 (by kernel_rfl) ⟨Ov rfl rfl fun _ _ T _ => ex_assign rfl, trivial⟩ ?_
  intro a6 w6 d6 z6 t6 e6 q6
  refine wp_seq_k fun K7 hK7 => ?_
  refine rgs mixed 25 [.eq (.int .i64 0)] [[]] d6 z6 (by kernel_rfl) ⟨Ov rfl rfl fun _ _ T _ => ex_move rfl, trivial⟩ ?_
  intro a8 w8 d8 z8 t8 e8 q8
  refine wp_block ?_
  have s10_0 := ((q8 0 rfl).trans ((q6 0 rfl).trans ((u4.past 0 rfl).trans ((u3.past 0 rfl).trans ((u1.past 0 rfl).trans s0_0)))))
  have s11_3 : a1.eval (.tmp 3) = .pointer (some ⟨b1, 0, none⟩) := (u1.here _ rfl)
  have s12_3 := ((q8 3 rfl).trans ((q6 3 rfl).trans ((u4.past 3 rfl).trans ((u3.past 3 rfl).trans s11_3))))
  have s13_4 : a3.eval (.tmp 4) = .int .i64 0 := (u3.here _ rfl)
  have s14_4 := ((q8 4 rfl).trans ((q6 4 rfl).trans ((u4.past 4 rfl).trans s13_4)))
  have s15_5 : a4.eval (.tmp 5) = .int .i64 0 := (u4.here _ rfl)
  have s16_5 := ((q8 5 rfl).trans ((q6 5 rfl).trans s15_5))
  have s17_6 : a6.eval (.tmp 6) = .slice none 0 0 := e6.1
  have s18_6 := ((q8 6 rfl).trans s17_6)
  have s19_8 : a8.eval (.tmp 8) = .int .i64 0 := e8.1
  have x20 := (Touch.trans (Touch.trans (Touch.trans x0 (Ext.touch t1)) (Ext.touch t6)) (Ext.touch t8))
  have hb1_21 := (Ext.keep t8 (Ext.keep t6 hb1))
  refine wp_loopg (σ := Nat) (fun nQ aQ wQ => ∃ L : List (Int × Bool), ∃ Q : Option Addr, ∃ cq : Nat, nQ = (104 - L.length) ∧
    aQ.defers = [] ∧
    aQ.tmps.size = 25 ∧
    aQ.eval (.tmp 0) = .pointer none ∧
    aQ.eval (.tmp 3) = .pointer (some ⟨b1, 0, none⟩) ∧
    aQ.eval (.tmp 4) = .int .i64 0 ∧
    aQ.eval (.tmp 5) = .int .i64 0 ∧
    aQ.eval (.tmp 6) = .slice Q L.length cq ∧
    aQ.eval (.tmp 8) = .int .i64 (L.length : Int) ∧
    Touch (NoF) w wQ ∧
    wQ.heap[b1]? = some (.cells #[.int .u32 hd, .int .u32 hs, .int .u8 hp, .int .u16 hsp, .int .u16 hdp] 31 (0, 0)) ∧
    wQ.ownsRow 0 133 2 (.slice Q L.length cq) L.length (flat lvs_ L) ∧
    (L.length ≤ 104) ∧
    (∀ j, (Value.slice Q L.length cq).ownBlock = some j → w.heap.size ≤ j) ∧
    (∀ j, (Value.slice Q L.length cq).ownBlock = some j → j ≠ b1)) (fun nQ => nQ) _ ⟨[], none, 0, rfl, d8, z8, s10_0, s12_3, s14_4, s16_5, (s18_6.trans (by first | rfl | (congr 1; omega) | (simp; omega) | simp)), (s19_8.trans (by first | rfl | (congr 1; omega) | (simp; omega) | simp)), x20, hb1_21, (World.ownsRow_nil _ 0 133 2), by simp, by simp [Value.ownBlock], by simp [Value.ownBlock]⟩ ?_
  rintro nQ9 a9 w9 ⟨L, Q, cq, hmu9, d9, z9, s9_0, s9_3, s9_4, s9_5, s9_6, s9_8, x9, hb1_22, f23, hk, hbase, hno_b1⟩
  refine rgs mixed 25 [.eq (.bool (decide ((L.length : Int) < 104)))] [[(8, none)]] d9 z9 (by kernel_rfl) ⟨Ov rfl rfl fun _ _ T ⟨k8, _⟩ => ex_lss (k8.trans s9_8) rfl, trivial⟩ ?_
  intro a24 w24 d24 z24 t24 e24 q24
  refine wp_seq_k fun K25 hK25 => ?_
  by_cases c26 : (L.length : Int) < 104
  · have y26 := decide_eq_true c26
    have s27_9 : a24.eval (.tmp 9) = .bool (decide ((L.length : Int) < 104)) := e24.1
    refine wp_cond_true (s27_9.trans (by rw [y26])) ?_
    refine wp_skip ?_
    repeat (with_reducible refine block_norm ?_)
    refine hK25 _ _ ?_
    refine wp_seq_k fun K28 hK28 => ?_
    refine wp_block ?_
    have s29_8 := ((q24 8 rfl).trans s9_8)
    refine rgs mixed 25 [.eq (.int .i64 (L.length : Int)), .eq (.int .i64 (L.length : Int))] [[(8, none)], [(10, some 0)]] d24 z24 (by kernel_rfl) ⟨Ov rfl rfl fun _ _ T ⟨k8, _⟩ => ex_move (k8.trans s29_8), Ov rfl rfl fun _ _ T ⟨k10, _⟩ => ex_assign k10, trivial⟩ ?_
    intro a30 w30 d30 z30 t30 e30 q30
    refine seq_begin ?_
    refine sp z30 rfl rfl (ex_move ((q30 6 rfl).trans ((q24 6 rfl).trans s9_6))) ?_; intro a31 u31 z31
    refine sp z31 rfl rfl (ex_move ((u31.past 7 rfl).trans e30.2.1)) ?_; intro a32 u32 z32
    have hb1_34 := (Ext.keep t30 (Ext.keep t24 hb1_22))
    refine sp z32 rfl rfl (ex_loadAgg (cs := [.int .u32 hd, .int .u32 hs, .int .u8 hp, .int .u16 hsp, .int .u16 hdp]) ((u32.past 3 rfl).trans ((u31.past 3 rfl).trans ((q30 3 rfl).trans ((q24 3 rfl).trans s9_3)))) (Try.isAgg31 _) (Try.sizeOf31 _) (cells_of (off := 0) hb1_34 rfl)) ?_; intro a33 u33 z33
    refine sp z33 rfl rfl (ex_move ((u33.past 7 rfl).trans ((u32.past 7 rfl).trans ((u31.past 7 rfl).trans e30.2.1)))) ?_; intro a35 u35 z35
    refine scx z35 rfl rfl (exl_call Try.func61 rfl rfl (cons_ops ((u35.past 13 rfl).trans (u33.here _ rfl)) (cons_ops (u35.here _ rfl) nil_ops))) (c_hbit hd hs hp hsp hdp (L.length : Int)  _) ?_; intro w36 a36 t36 u36 z36
    refine sp z36 rfl rfl (exl_build (cons_parts ((u36.past 12 rfl).trans ((u35.past 12 rfl).trans ((u33.past 12 rfl).trans (u32.here _ rfl)))) (cons_parts (u36.here _ rfl) nil_parts)) (bd_133_0Ii64_1B (L.length : Int) (hbit hd hs hp hsp hdp (L.length : Int)) _)) ?_; intro a37 u37 z37
    refine snew (mk := fun bQ => .slice (some ⟨bQ, 0, none⟩) 1 1) z37 rfl rfl (exl_buildSlice (cons_parts (u37.here _ rfl) nil_parts) (bs_128_1_0AIi64BE (L.length : Int) (hbit hd hs hp hsp hdp (L.length : Int)) _)) ?_; intro b38 w38 a38 t38 g38 hb38 u38 z38
    have hb1_40 := (Ext.keep t36 hb1_34)
    have n39_b1_b38 := ne_lt (lt_of hb1_40) g38
    have f23_42 := (own_keep (own_keep (own_keep f23 t24) t30) t36)
    have no41 := no_new f23_42 g38
    have x44 := (Touch.trans (Touch.trans (Touch.trans x9 (Ext.touch t24)) (Ext.touch t30)) (Ext.touch t36))
    have yb38_43 := Nat.le_trans (Touch.size x44) g38
    have f23_46 := (own_keep f23_42 t38)
    refine sapp (m := 1) (news := [.int .i64 (L.length : Int), .bool (hbit hd hs hp hsp hdp (L.length : Int))]) z38 rfl el_128 f23_46 ((u38.past 11 rfl).trans ((u37.past 11 rfl).trans ((u36.past 11 rfl).trans ((u35.past 11 rfl).trans ((u33.past 11 rfl).trans ((u32.past 11 rfl).trans (u31.here _ rfl))))))) (u38.here _ rfl) rfl (news_of hb38) rfl (by omega) (by omega) ?_; intro A45 cp45 w45 a45 t45 u45 z45
    have hb1_49 := (Ext.keep t38 hb1_40)
    have no48 := App.no t45 (lt_of hb1_49) (fun (jQ : Nat) hQ (eQ : jQ = b1) => (fun (eQ : some b1 = _) => hno_b1 _ eQ.symm rfl) (by rw [← eQ]; exact hQ.symm))
    have no50 := App.no t45 (lt_of hb38) (fun (jQ : Nat) hQ (eQ : jQ = b38) => (fun (eQ : some b38 = _) => no41 _ eQ.symm rfl) (by rw [← eQ]; exact hQ.symm))
    have x52 := (Touch.trans x44 (Ext.touch t38))
    have no51 := App.base t45 (Touch.size x52) hbase
    refine sp z45 rfl rfl (ex_assign (u45.here _ rfl)) ?_; intro a53 u53 z53
    have d54 := (u53.defs.trans (u45.defs.trans (u38.defs.trans (u37.defs.trans (u36.defs.trans (u35.defs.trans (u33.defs.trans (u32.defs.trans (u31.defs.trans d30)))))))))
    refine seq_end ?_
    repeat (with_reducible refine block_norm ?_)
    refine hK28 _ _ ?_
    have s55_8 := ((u53.past 8 rfl).trans ((u45.past 8 rfl).trans ((u38.past 8 rfl).trans ((u37.past 8 rfl).trans ((u36.past 8 rfl).trans ((u35.past 8 rfl).trans ((u33.past 8 rfl).trans ((u32.past 8 rfl).trans ((u31.past 8 rfl).trans ((q30 8 rfl).trans s29_8))))))))))
    refine rg mixed 25 [.eq (.int .i64 ((L.length : Int) + 1)), .eq (.int .i64 ((L.length : Int) + 1))] [[(8, none)], [(19, some 0)]] d54 z53 (by kernel_rfl) ⟨Ov rfl rfl fun _ _ T ⟨k8, _⟩ => ex_add64 (k8.trans s55_8) rfl (by omega), Ov rfl rfl fun _ _ T ⟨k19, _⟩ => ex_move k19, trivial⟩ ?_
    intro a56 w56 d56 z56 t56 e56 q56
    repeat (with_reducible refine block_norm ?_)
    have s57_0 := ((q56 0 rfl).trans ((u53.past 0 rfl).trans ((u45.past 0 rfl).trans ((u38.past 0 rfl).trans ((u37.past 0 rfl).trans ((u36.past 0 rfl).trans ((u35.past 0 rfl).trans ((u33.past 0 rfl).trans ((u32.past 0 rfl).trans ((u31.past 0 rfl).trans ((q30 0 rfl).trans ((q24 0 rfl).trans s9_0))))))))))))
    have s58_3 := ((q56 3 rfl).trans ((u53.past 3 rfl).trans ((u45.past 3 rfl).trans ((u38.past 3 rfl).trans ((u37.past 3 rfl).trans ((u36.past 3 rfl).trans ((u35.past 3 rfl).trans ((u33.past 3 rfl).trans ((u32.past 3 rfl).trans ((u31.past 3 rfl).trans ((q30 3 rfl).trans ((q24 3 rfl).trans s9_3))))))))))))
    have s59_4 := ((q56 4 rfl).trans ((u53.past 4 rfl).trans ((u45.past 4 rfl).trans ((u38.past 4 rfl).trans ((u37.past 4 rfl).trans ((u36.past 4 rfl).trans ((u35.past 4 rfl).trans ((u33.past 4 rfl).trans ((u32.past 4 rfl).trans ((u31.past 4 rfl).trans ((q30 4 rfl).trans ((q24 4 rfl).trans s9_4))))))))))))
    have s60_5 := ((q56 5 rfl).trans ((u53.past 5 rfl).trans ((u45.past 5 rfl).trans ((u38.past 5 rfl).trans ((u37.past 5 rfl).trans ((u36.past 5 rfl).trans ((u35.past 5 rfl).trans ((u33.past 5 rfl).trans ((u32.past 5 rfl).trans ((u31.past 5 rfl).trans ((q30 5 rfl).trans ((q24 5 rfl).trans s9_5))))))))))))
    have s61_6 : a53.eval (.tmp 6) = .slice A45 (L.length + 1) cp45 := (u53.here _ rfl)
    have s62_6 := ((q56 6 rfl).trans s61_6)
    have s63_8 : a56.eval (.tmp 8) = .int .i64 ((L.length : Int) + 1) := e56.2.1
    have x64 := (Touch.trans (Touch.via x52 t45.touch (fun jQ hQ => Or.inr (hbase jQ hQ.symm))) (Ext.touch t56))
    have hb1_65 := (Ext.keep t56 (Touch.keep t45.touch hb1_49 (fun (eQ : some b1 = _) => hno_b1 _ eQ.symm rfl)))
    have t45.own_66 := (own_keep t45.own t56)
    refine then_norm ?_
    refine ⟨_, ⟨L ++ [(((L.length : Nat) : Int), hbit hd hs hp hsp hdp (L.length : Nat))], A45, cp45, rfl, d56, z56, s57_0, s58_3, s59_4, s60_5, (s62_6.trans (by first | rfl | (congr 1; omega) | (simp; omega) | simp)), (s63_8.trans (by first | rfl | (congr 1; omega) | (simp; omega) | simp)), x64, hb1_65, (by rw [← flat_push, List.length_append]; exact t45.own_66), (by simp only [List.length_append, List.length_cons, List.length_nil]; omega), (by rw [List.length_append]; exact no51), (by rw [List.length_append]; exact no48)⟩, ?_⟩; (show _ < _); rw [hmu9]; exact (by simp only [List.length_append, List.length_cons, List.length_nil]; omega)
  · have y26 := decide_eq_false c26
    have s67_9 : a24.eval (.tmp 9) = .bool (decide ((L.length : Int) < 104)) := e24.1
    refine wp_cond_false (s67_9.trans (by rw [y26])) ?_
    refine wp_exit ?_
    repeat (first | (with_reducible refine then_exit ?_) | (with_reducible refine block_here ?_) | (with_reducible refine block_past rfl ?_))
    refine hK7 _ _ ?_
    refine wp_seq ?_
    refine seq_begin ?_
    refine sp z24 rfl rfl (ex_move ((q24 0 rfl).trans s9_0)) ?_; intro a68 u68 z68
    refine sp z68 rfl rfl (ex_move ((u68.past 6 rfl).trans ((q24 6 rfl).trans s9_6))) ?_; intro a69 u69 z69
    refine scx z69 rfl rfl (exl_call Try.func56 rfl rfl (cons_ops ((u69.past 20 rfl).trans (u68.here _ rfl)) (cons_ops (u69.here _ rfl) nil_ops))) (c_Cube_nil _ _ _) ?_; intro w70 a70 t70 u70 z70
    refine sp z70 rfl rfl (ex_extract (u70.here _ rfl) rfl) ?_; intro a71 u71 z71
    refine sp z71 rfl rfl (ex_extract ((u71.past 22 rfl).trans (u70.here _ rfl)) rfl) ?_; intro a72 u72 z72
    refine sp z72 rfl rfl (ex_assign ((u72.past 23 rfl).trans (u71.here _ rfl))) ?_; intro a73 u73 z73
    refine sp z73 rfl rfl (ex_assign ((u73.past 24 rfl).trans (u72.here _ rfl))) ?_; intro a74 u74 z74
    have d75 := (u74.defs.trans (u73.defs.trans (u72.defs.trans (u71.defs.trans (u70.defs.trans (u69.defs.trans (u68.defs.trans d24)))))))
    refine seq_end ?_
    refine then_norm ?_
    refine wp_ret ?_
    have s76_4 : a73.eval (.tmp 4) = .int .i64 0 := (u73.here _ rfl)
    have s77_4 := ((u74.past 4 rfl).trans s76_4)
    have s78_5 : a74.eval (.tmp 5) = .int .i64 2 := (u74.here _ rfl)
    repeat (first | (with_reducible refine then_ret ?_) | (with_reducible refine block_ret ?_))
    refine rett (rs := [.tmp 4, .tmp 5]) (vs := [.int .i64 0, .int .i64 2]) Try.results17 ⟨s77_4, ⟨s78_5, trivial⟩⟩ (by simp) d75 ?_
    have x79 := (Touch.trans (Touch.trans x9 (Ext.touch t24)) (Ext.touch t70))
    exact ⟨rfl, (x79).ext⟩

set_option maxRecDepth 100000 in
set_option maxHeartbeats 4000000 in
theorem c_awake07 {w : World} : Calls Try.prog 13 #[] w fun e w' => e = .returned (.bool true) ∧ Ext w w' := by
  refine enter 21 Try.ntmps13 Try.func13 rfl (Nat.le_of_ble_eq_true rfl) fun a0 d0 z0 hargs => ?_
  have x0 := Touch.refl NoF w
  refine rgs mixed 21 [.eq (.bool false)] [[]] d0 z0 (by kernel_rfl) ⟨Ov rfl rfl fun _ _ T _ => ex_assign rfl, trivial⟩ ?_
  intro a1 w1 d1 z1 t1 e1 q1
  refine wp_seq ?_
  refine seq_begin ?_
  refine sc z1 rfl rfl (exl_call Try.func14 rfl rfl (cons_ops rfl nil_ops)) (c_New 10 (by omega) (by omega)) ?_
  rintro e2 w2 ⟨b2, Fp2, he2, H2, t2, nw2⟩; refine ⟨_, he2, ?_⟩; intro a2 u2 z2
  have x4 := (Touch.trans x0 (Ext.touch t1))
  have i3 : ∀ jQ, Fp2 jQ → (NoF) jQ ∨ w.heap.size ≤ jQ := fun jQ hQ => Or.inr (Nat.le_trans (Touch.size x4) (nw2 jQ hQ))
  refine sp z2 rfl rfl (ex_move (u2.here _ rfl)) ?_; intro a5 u5 z5
  refine sp z5 rfl rfl (ex_extract (u5.here _ rfl) rfl) ?_; intro a6 u6 z6
  refine sp z6 rfl rfl (ex_extract ((u6.past 5 rfl).trans (u5.here _ rfl)) rfl) ?_; intro a7 u7 z7
  refine sp z7 rfl rfl (ex_assign ((u7.past 7 rfl).trans (u6.here _ rfl))) ?_; intro a8 u8 z8
  refine sp z8 rfl rfl (ex_assign ((u8.past 8 rfl).trans (u7.here _ rfl))) ?_; intro a9 u9 z9
  have d10 := (u9.defs.trans (u8.defs.trans (u7.defs.trans (u6.defs.trans (u5.defs.trans (u2.defs.trans d1))))))
  refine seq_end ?_
  refine then_norm ?_
  refine wp_seq ?_
  refine seq_begin ?_
  refine sp z9 rfl rfl (ex_move ((u9.past 1 rfl).trans (u8.here _ rfl))) ?_; intro a11 u11 z11
  refine sp z11 rfl rfl (exl_build nil_parts (bd_24_ _)) ?_; intro a12 u12 z12
  refine sc z12 rfl rfl (exl_call Try.func50 rfl rfl (cons_ops ((u12.past 10 rfl).trans (u11.here _ rfl)) (cons_ops rfl (cons_ops (u12.here _ rfl) nil_ops)))) (c_Prefix H2 wf_new (by simp) (by omega) 0 0 0 (by omega) (by omega) (by decide)) ?_
  rintro e13 w13 ⟨Fp13, A13, r13, c13, he13, H13, m13, R13, back13, more13⟩; refine ⟨_, he13, ?_⟩; intro a13 u13 z13
  have x14 := (Touch.trans x4 (Ext.touch t2))
  have i15 := Mut.inF m13 x14 i3
  refine sp z13 rfl rfl (ex_move (u13.here _ rfl)) ?_; intro a16 u16 z16
  refine sp z16 rfl rfl (ex_extract (u16.here _ rfl) rfl) ?_; intro a17 u17 z17
  refine sp z17 rfl rfl (ex_extract ((u17.past 9 rfl).trans (u16.here _ rfl)) rfl) ?_; intro a18 u18 z18
  refine sp z18 rfl rfl (ex_assign ((u18.past 13 rfl).trans (u17.here _ rfl))) ?_; intro a19 u19 z19
  refine sp z19 rfl rfl (ex_assign ((u19.past 14 rfl).trans (u18.here _ rfl))) ?_; intro a20 u20 z20
  have d21 := (u20.defs.trans (u19.defs.trans (u18.defs.trans (u17.defs.trans (u16.defs.trans (u13.defs.trans (u12.defs.trans (u11.defs.trans d10))))))))
  refine seq_end ?_
  refine then_norm ?_
  have s22_4 : a20.eval (.tmp 4) = .int .i64 c13 := (u20.here _ rfl)
  have s23_3 : a19.eval (.tmp 3) = .int .i64 r13 := (u19.here _ rfl)
  have s24_3 := ((u20.past 3 rfl).trans s23_3)
  refine rgs mixed 21 [.eq (.int .i64 c13), .eq (.bool (decide (c13 = 0))), .eq (.bool (decide (c13 = 0))), .eq (if (decide (c13 = 0)) = true then .int .i64 r13 else undef), .eq (if (decide (c13 = 0)) = true then .bool (decide (r13 = 1)) else undef), .eq (.bool ((decide (c13 = 0)) && (decide (r13 = 1)))), .eq (.bool ((decide (c13 = 0)) && (decide (r13 = 1))))] [[(4, none)], [(15, some 0)], [(16, some 1)], [(3, none), (17, some 2)], [(18, some 3), (17, some 2)], [(17, some 2), (19, some 4)], [(20, some 5)]] d21 z20 (by kernel_rfl) ⟨Ov rfl rfl fun _ _ T ⟨k4, _⟩ => ex_move (k4.trans s22_4),
    Ov rfl rfl fun _ _ T ⟨k15, _⟩ => ex_eql k15 rfl,
    Ov rfl rfl fun _ _ T ⟨k16, _⟩ => ex_move k16,
    Og rfl rfl rfl fun _ _ T ⟨k3, k17, _⟩ => ⟨k17, fun hcQ => ex_move (k3.trans s24_3)⟩,
    Og rfl rfl rfl fun _ _ T ⟨k18, k17, _⟩ => ⟨k17, fun hcQ => ex_eql (k18.trans (if_pos hcQ)) rfl⟩,
    Ov rfl rfl fun _ _ T ⟨k17, k19, _⟩ => ex_pick_and k17 k19 rfl,
    Ov rfl rfl fun _ _ T ⟨k20, _⟩ => ex_assign k20,
    trivial⟩ ?_
  intro a25 w25 d25 z25 t25 e25 q25
  refine wp_ret ?_
  have s26_0 : a25.eval (.tmp 0) = .bool ((decide (c13 = 0)) && (decide (r13 = 1))) := e25.2.2.2.2.2.2.1
  repeat (first | (with_reducible refine then_ret ?_) | (with_reducible refine block_ret ?_))
  refine retl (rs := [.tmp 0]) Try.results13 ⟨s26_0, trivial⟩ d25 ?_
  have hz := more13 rfl
  have x27 := (Touch.trans (Touch.mut x14 m13 i3) (Ext.touch t25))
  exact ⟨by rw [hz.1, hz.2]; rfl, (x27).ext⟩

end Go.Proofs.Yticodddigaiipaa
