/-
 Contracts of functions of the given program, each proved by a walk through its code: what a call answers, and what it leaves of memory; conditions: those ahead of each theorem's colon.
-/
import Derived.Test.YticodddigaiipaaSatS8
import Derived.Test.YticodddigaiipaaSatL15
set_option linter.unusedVariables false
set_option linter.unusedSimpArgs false
namespace Go.Proofs.Yticodddigaiipaa
open Go.RowKit

set_option maxRecDepth 100000 in
set_option maxHeartbeats 4000000 in
theorem c_In06_ : ∀ (N : Nat) {w : World} {Q : Option Addr} {L : List Ex} {n cq : Nat} {x : H5} (HR : Reads w (.slice Q n cq) 6 (flat exv L) n) (hn : n = L.length) (hc : n ≤ cq) (hR : RightL L) (hL : n ≤ 60) (H : HdrOk x.1 x.2.1 x.2.2.1 x.2.2.2.1 x.2.2.2.2) (hN : n ≤ N), Calls Try.prog 73 #[.slice Q n cq, .agg #[.int .u32 x.1, .int .u32 x.2.1, .int .u8 x.2.2.1, .int .u16 x.2.2.2.1, .int .u16 x.2.2.2.2]] w fun e w' => ∃ A' c', e = .returned (.slice A' n c') ∧ w'.ownsRow 0 4 1 (.slice A' n c') n (flat bov1 (semT L (hB x) n)) ∧ Ext w w' ∧ ∀ j, (Value.slice A' n c').ownBlock = some j → w.heap.size ≤ j := by
 intro N
 induction N using Nat.strongRecOn with
 | _ N ihs =>
 intro w Q L n cq x HR hn hc hR hL H hN
 have ih : ∀ {w : World} {Q : Option Addr} {L : List Ex} {n cq : Nat} {x : H5} (HR : Reads w (.slice Q n cq) 6 (flat exv L) n) (hn : n = L.length) (hc : n ≤ cq) (hR : RightL L) (hL : n ≤ 60) (H : HdrOk x.1 x.2.1 x.2.2.1 x.2.2.2.1 x.2.2.2.2) (hN' : n < N), Calls Try.prog 73 #[.slice Q n cq, .agg #[.int .u32 x.1, .int .u32 x.2.1, .int .u8 x.2.2.1, .int .u16 x.2.2.2.1, .int .u16 x.2.2.2.2]] w fun e w' => ∃ A' c', e = .returned (.slice A' n c') ∧ w'.ownsRow 0 4 1 (.slice A' n c') n (flat bov1 (semT L (hB x) n)) ∧ Ext w w' ∧ ∀ j, (Value.slice A' n c').ownBlock = some j → w.heap.size ≤ j := @fun w Q L n cq x HR hn hc hR hL H h => ihs n h HR hn hc hR hL H (Nat.le_refl _)
 refine enter 154 Try.ntmps73 Try.func73 rfl (Nat.le_of_ble_eq_true rfl) fun a0 d0 z0 hargs => ?_
 have s0_0 : a0.eval (.tmp 0) = .slice Q n cq := hargs 0 _ rfl
 have s0_1 : a0.eval (.tmp 1) = .agg #[.int .u32 x.1, .int .u32 x.2.1, .int .u8 x.2.2.1, .int .u16 x.2.2.2.1, .int .u16 x.2.2.2.2] := hargs 1 _ rfl
 have x0 := Touch.refl NoF w
 refine wp_seq ?_
 refine seq_begin ?_
 refine sbox z0 rfl s0_1 ?_; intro b1 w1 a1 t1 g1 hb1 u1 z1
 have yb1_2 := Nat.le_trans (Touch.size x0) g1
 refine sp z1 rfl rfl (ex_assign rfl) ?_; intro a3 u3 z3
 have d4 := (u3.defs.trans (u1.defs.trans d0))
 refine seq_end ?_
 refine then_norm ?_
 refine wp_seq ?_
 refine seq_begin ?_
 refine sp z3 rfl rfl (ex_loadAgg (cs := [.int .u32 x.1, .int .u32 x.2.1, .int .u8 x.2.2.1, .int .u16 x.2.2.2.1, .int .u16 x.2.2.2.2]) ((u3.past 3 rfl).trans (u1.here _ rfl)) (Try.isAgg31 _) (Try.sizeOf31 _) (cells_of (off := 0) hb1 rfl)) ?_; intro a5 u5 z5
 refine sc z5 rfl rfl (exl_call Try.func109 rfl rfl (cons_ops (u5.here _ rfl) nil_ops)) (c_Bits02 (x := x) H) ?_
 rintro e6 w6 ⟨A6, c6, he6, ho6, t6, hb6⟩; refine ⟨_, he6, ?_⟩; intro a6 u6 z6
 have no7 := row_no (hb6) (lt_of hb1)
 have x9 := (Touch.trans x0 (Ext.touch t1))
 have no8 := row_base (hb6) (Touch.size x9)
 refine sp z6 rfl rfl (ex_assign (u6.here _ rfl)) ?_; intro a10 u10 z10
 have d11 := (u10.defs.trans (u6.defs.trans (u5.defs.trans d4)))
 refine seq_end ?_
 refine then_norm ?_
 refine rgs mixed 154 [.eq (.slice none 0 0)] [[]] d11 z10 (by kernel_rfl) ⟨Ov rfl rfl fun _ _ T _ => ex_assign rfl, trivial⟩ ?_
 intro a12 w12 d12 z12 t12 e12 q12
 refine wp_seq_k fun K13 hK13 => ?_
 refine rgs mixed 154 [.eq (.int .i64 0)] [[]] d12 z12 (by kernel_rfl) ⟨Ov rfl rfl fun _ _ T _ => ex_assign rfl, trivial⟩ ?_
 intro a14 w14 d14 z14 t14 e14 q14
 refine wp_block ?_
 have p17 := fr4 u1.past u3.past u5.past u6.past
 have s16_0 := ((q14 0 rfl).trans ((q12 0 rfl).trans ((u10.past 0 rfl).trans ((p17 0 rfl).trans s0_0))))
 have s18_3 : a1.eval (.tmp 3) = .pointer (some ⟨b1, 0, none⟩) := (u1.here _ rfl)
 have s19_3 := ((q14 3 rfl).trans ((q12 3 rfl).trans ((u10.past 3 rfl).trans ((u6.past 3 rfl).trans ((u5.past 3 rfl).trans ((u3.past 3 rfl).trans s18_3))))))
 have s20_4 : a3.eval (.tmp 4) = .slice none 0 0 := (u3.here _ rfl)
 have s21_4 := ((q14 4 rfl).trans ((q12 4 rfl).trans ((u10.past 4 rfl).trans ((u6.past 4 rfl).trans ((u5.past 4 rfl).trans s20_4)))))
 have s22_5 : a10.eval (.tmp 5) = .slice A6 104 c6 := (u10.here _ rfl)
 have s23_5 := ((q14 5 rfl).trans ((q12 5 rfl).trans s22_5))
 have s24_6 : a12.eval (.tmp 6) = .slice none 0 0 := e12.1
 have s25_6 := ((q14 6 rfl).trans s24_6)
 have s26_7 : a14.eval (.tmp 7) = .int .i64 0 := e14.1
 have x27 := (Touch.trans (Touch.trans (Touch.trans x9 (Ext.touch t6)) (Ext.touch t12)) (Ext.touch t14))
 have hb1_28 := (Ext.keep t14 (Ext.keep t12 (Ext.keep t6 hb1)))
 have ho6_30 := (own_keep (own_keep ho6 t12) t14)
 refine wp_loopg (σ := Nat) (fun nQ aQ wQ => ∃ k : Nat, ∃ A1 : Option Addr, ∃ c1 : Nat, nQ = (n - k) ∧
  aQ.defers = [] ∧
  aQ.tmps.size = 154 ∧
  aQ.eval (.tmp 0) = .slice Q n cq ∧
  aQ.eval (.tmp 3) = .pointer (some ⟨b1, 0, none⟩) ∧
  aQ.eval (.tmp 4) = .slice none 0 0 ∧
  aQ.eval (.tmp 5) = .slice A6 104 c6 ∧
  aQ.eval (.tmp 6) = .slice A1 k c1 ∧
  aQ.eval (.tmp 7) = .int .i64 (k : Int) ∧
  Touch (NoF) w wQ ∧
  wQ.heap[b1]? = some (.cells #[.int .u32 x.1, .int .u32 x.2.1, .int .u8 x.2.2.1, .int .u16 x.2.2.2.1, .int .u16 x.2.2.2.2] 31 (0, 0)) ∧
  wQ.ownsRow 0 4 1 (.slice A6 104 c6) (104) (flat bov1 (bitsV (hB x) 104)) ∧
  wQ.ownsRow 0 4 1 (.slice A1 k c1) k (flat bov1 (semT L (hB x) k)) ∧
  (k ≤ n) ∧
  (∀ j, (Value.slice A1 k c1).ownBlock = some j → w.heap.size ≤ j) ∧
  (∀ j, (Value.slice A1 k c1).ownBlock = some j → j ≠ b1) ∧
  (∀ j, (Value.slice A1 k c1).ownBlock = some j → (Value.slice A6 104 c6).ownBlock ≠ some j)) (fun nQ => nQ) _ ⟨0, none, 0, rfl, d14, z14, s16_0, s19_3, s21_4, s23_5, (s25_6.trans (by first | rfl | (congr 1; omega) | (simp; omega) | simp)), (s26_7.trans (by first | rfl | (congr 1; omega) | (simp; omega) | simp)), x27, hb1_28, ho6_30, (World.ownsRow_nil _ 0 4 1), Nat.zero_le _, by simp [Value.ownBlock], by simp [Value.ownBlock], by simp [Value.ownBlock]⟩ ?_
 rintro nQ15 a15 w15 ⟨k, A1, c1, hmu15, d15, z15, s15_0, s15_3, s15_4, s15_5, s15_6, s15_7, x15, hb1_29, ho6_31, f32, hk, hbase, hno_b1, hnor_0⟩
 refine wp_seq_k fun K33 hK33 => ?_
 refine rgs mixed 154 [.eq (.int .i64 (k : Int)), .eq (.slice Q n cq), .eq (.int .i64 (n : Int)), .eq (.bool (decide ((k : Int) < (n : Int))))] [[(7, none)], [(0, none)], [(14, some 1)], [(13, some 0), (15, some 2)]] d15 z15 (by kernel_rfl) ⟨Ov rfl rfl fun _ _ T ⟨k7, _⟩ => ex_move (k7.trans s15_7),
  Ov rfl rfl fun _ _ T ⟨k0, _⟩ => ex_move (k0.trans s15_0),
  Ov rfl rfl fun _ _ T ⟨k14, _⟩ => ex_len (cons_ops k14 nil_ops) Try.underlying45,
  Ov rfl rfl fun _ _ T ⟨k13, k15, _⟩ => ex_lss k13 k15,
  trivial⟩ ?_
 intro a34 w34 d34 z34 t34 e34 q34
 by_cases c35 : (k : Int) < (n : Int)
 ·have y35 := decide_eq_true c35
  have s36_16 : a34.eval (.tmp 16) = .bool (decide ((k : Int) < (n : Int))) := e34.2.2.2.1
  refine wp_cond_true (s36_16.trans (by rw [y35])) ?_
  refine wp_skip ?_
  repeat (with_reducible refine block_norm ?_)
  refine hK33 _ _ ?_
  refine wp_seq_k fun K37 hK37 => ?_
  refine wp_block ?_
  have hx := hR (k : Int) (by omega) (by omega); have hxv := hx.v; have hxk := hx.k
  refine wp_seq ?_
  refine seq_begin ?_
  refine sp z34 rfl rfl (ex_move ((q34 0 rfl).trans s15_0)) ?_; intro a38 u38 z38
  refine sp z38 rfl rfl (ex_move ((u38.past 7 rfl).trans ((q34 7 rfl).trans s15_7))) ?_; intro a39 u39 z39
  have x42 := (Touch.trans x15 (Ext.touch t34))
  have rd41 := Reads.touch HR x42 (by decide) (reads_noF _ _)
  refine sp z39 rfl rfl (ex_ixr Try.underlying45 (Try.sizeOf139 _) ((u39.past 19 rfl).trans (u38.here _ rfl)) (Reads.eqA rd41 (by omega)) (u39.here _ rfl) (by omega) (by omega)) ?_; intro a40 u40 z40
  refine sp z40 rfl rfl (ex_loadAgg (cs := [.int .i64 ((at_ L e0 (k : Int)).k), .int .i64 ((at_ L e0 (k : Int)).a), .int .i64 ((at_ L e0 (k : Int)).b), .int .i64 ((at_ L e0 (k : Int)).c), .int .i64 ((at_ L e0 (k : Int)).v), .bool ((at_ L e0 (k : Int)).on)]) (u40.here _ rfl) (Try.isAgg139 _) (Try.sizeOf139 _) (rd_ats (us := [.int .i64 ((at_ L e0 (k : Int)).k), .int .i64 ((at_ L e0 (k : Int)).a), .int .i64 ((at_ L e0 (k : Int)).b), .int .i64 ((at_ L e0 (k : Int)).c), .int .i64 ((at_ L e0 (k : Int)).v), .bool ((at_ L e0 (k : Int)).on)]) rd41 (Reads.eqA rd41 (by omega)) exv6 (at_some' (d := e0) (hn) (by omega) (by omega)) 0 rfl)) ?_; intro a43 u43 z43
  refine salloc z43 rfl (zv_139 _) ?_; intro b44 w44 a44 t44 g44 hb44 u44 z44
  have hb1_46 := (Ext.keep t34 hb1_29)
  have n45_b1_b44 := ne_lt (lt_of hb1_46) g44
  have ho6_48 := (own_keep ho6_31 t34)
  have no47 := no_new ho6_48 g44
  have f32_50 := (own_keep f32 t34)
  have no49 := no_new f32_50 g44
  have yb44_51 := Nat.le_trans (Touch.size x42) g44
  refine sstore (cs := [.int .i64 0, .int .i64 0, .int .i64 0, .int .i64 0, .int .i64 0, .bool false]) (vs := [.int .i64 ((at_ L e0 (k : Int)).k), .int .i64 ((at_ L e0 (k : Int)).a), .int .i64 ((at_ L e0 (k : Int)).b), .int .i64 ((at_ L e0 (k : Int)).c), .int .i64 ((at_ L e0 (k : Int)).v), .bool ((at_ L e0 (k : Int)).on)]) (cs' := [.int .i64 ((at_ L e0 (k : Int)).k), .int .i64 ((at_ L e0 (k : Int)).a), .int .i64 ((at_ L e0 (k : Int)).b), .int .i64 ((at_ L e0 (k : Int)).c), .int .i64 ((at_ L e0 (k : Int)).v), .bool ((at_ L e0 (k : Int)).on)]) z44 rfl (u44.here _ rfl) ((u44.past 22 rfl).trans (u43.here _ rfl)) hb44 (Try.sizeOf139 _) rfl rfl (by decide) (Nat.le_of_ble_eq_true rfl) rfl rfl ?_; intro w52 a52 t52 u52 z52
  have d53 := (u52.defs.trans (u44.defs.trans (u43.defs.trans (u40.defs.trans (u39.defs.trans (u38.defs.trans d34))))))
  refine seq_end ?_
  refine then_norm ?_
  refine rgs mixed 154 [.eq (.bool false)] [[]] d53 z52 (by kernel_rfl) ⟨Ov rfl rfl fun _ _ T _ => ex_assign rfl, trivial⟩ ?_
  intro a54 w54 d54 z54 t54 e54 q54
  refine wp_seq_k fun K55 hK55 => ?_
  have s56_8 : a44.eval (.tmp 8) = .pointer (some ⟨b44, 0, none⟩) := (u44.here _ rfl)
  have s57_8 := ((q54 8 rfl).trans ((u52.past 8 rfl).trans s56_8))
  have t52.here_58 := (Ext.keep t54 t52.here)
  refine rgs mixed 154 [.eq (.pointer (some ⟨b44, 0, none⟩)), .eq (.int .i64 ((at_ L e0 (k : Int)).k))] [[(8, none)], [(23, some 0)]] d54 z54 (by kernel_rfl) ⟨Ov rfl rfl fun _ _ T ⟨k8, _⟩ => ex_fieldAddr (k8.trans s57_8) (fa_139_0 _ _ _), Ov rfl rfl fun _ _ T ⟨k23, _⟩ => ex_load k23 (Try.isAgg3 _) (cell_of (Ext.keep T.ext t52.here_58) rfl), trivial⟩ ?_
  intro a59 w59 d59 z59 t59 e59 q59
  refine wp_block ?_
  have s60_24 : a59.eval (.tmp 24) = .int .i64 ((at_ L e0 (k : Int)).k) := e59.2.1
  refine rgs mixed 154 [.eq (.bool (decide (((at_ L e0 (k : Int)).k) = 1))), .eq (.bool (decide (((at_ L e0 (k : Int)).k) = 1)))] [[(24, none)], [(26, some 0)]] d59 z59 (by kernel_rfl) ⟨Ov rfl rfl fun _ _ T ⟨k24, _⟩ => ex_eql (k24.trans s60_24) rfl, Ov rfl rfl fun _ _ T ⟨k26, _⟩ => ex_assign k26, trivial⟩ ?_
  intro a61 w61 d61 z61 t61 e61 q61
  have p63 := fr4 q34 u38.past u39.past u40.past
  have p64 := fr4 u43.past u44.past u52.past q54
  have s62_0 := ((q61 0 rfl).trans ((q59 0 rfl).trans ((p64 0 rfl).trans ((p63 0 rfl).trans s15_0))))
  have s65_3 := ((q61 3 rfl).trans ((q59 3 rfl).trans ((p64 3 rfl).trans ((p63 3 rfl).trans s15_3))))
  have s66_4 := ((q61 4 rfl).trans ((q59 4 rfl).trans ((p64 4 rfl).trans ((p63 4 rfl).trans s15_4))))
  have s67_5 := ((q61 5 rfl).trans ((q59 5 rfl).trans ((p64 5 rfl).trans ((p63 5 rfl).trans s15_5))))
  have s68_6 := ((q61 6 rfl).trans ((q59 6 rfl).trans ((p64 6 rfl).trans ((p63 6 rfl).trans s15_6))))
  have s69_7 := ((q61 7 rfl).trans ((q59 7 rfl).trans ((p64 7 rfl).trans ((p63 7 rfl).trans s15_7))))
  have hb1_70 := (Ext.keep t61 (Ext.keep t59 (Ext.keep t54 (Turn.keep t52 (Ext.keep t44 hb1_46) n45_b1_b44))))
  have ho6_71 := (own_keep (own_keep (own_keep (own_touch (own_keep ho6_48 t44) t52.touch (fun jQ hQ eQ => no47 jQ hQ eQ)) t54) t59) t61)
  have f32_72 := (own_keep (own_keep (own_keep (own_touch (own_keep f32_50 t44) t52.touch (fun jQ hQ eQ => no49 jQ hQ eQ)) t54) t59) t61)
  have x73 := (Touch.trans (Touch.trans (Touch.trans (Touch.turn (Touch.trans x42 (Ext.touch t44)) t52 (Or.inr yb44_51)) (Ext.touch t54)) (Ext.touch t59)) (Ext.touch t61))
  by_cases c74 : ((at_ L e0 (k : Int)).k) = 1
  ·have y74 := decide_eq_true c74
   have s75_25 : a61.eval (.tmp 25) = .bool (decide (((at_ L e0 (k : Int)).k) = 1)) := e61.2.1
   refine wp_cond_true (s75_25.trans (by rw [y74])) ?_
   refine rg mixed 154 [.eq (.bool true)] [[]] d61 z61 (by kernel_rfl) ⟨Ov rfl rfl fun _ _ T _ => ex_assign rfl, trivial⟩ ?_
   intro a76 w76 d76 z76 t76 e76 q76
   repeat (with_reducible refine block_norm ?_)
   refine hK55 _ _ ?_
   have hval : true = sem L (k : Int) (hB x) := by
    rw [sem_k1 (i := (k : Int)) hR (by omega) (by omega) _ (by omega)]
   refine seq_begin ?_
   refine sp z76 rfl rfl (ex_move ((q76 6 rfl).trans s68_6)) ?_; intro a77 u77 z77
   refine sp z77 rfl rfl (ex_move ((u77.past 9 rfl).trans e76.1)) ?_; intro a78 u78 z78
   refine snew (mk := fun bQ => .slice (some ⟨bQ, 0, none⟩) 1 1) z78 rfl rfl (exl_buildSlice (cons_parts (u78.here _ rfl) nil_parts) (bs_52_1_0B true _)) ?_; intro b79 w79 a79 t79 g79 hb79 u79 z79
   have hb1_81 := (Ext.keep t76 hb1_70)
   have n80_b1_b79 := ne_lt (lt_of hb1_81) g79
   have ho6_83 := (own_keep ho6_71 t76)
   have no82 := no_new ho6_83 g79
   have f32_85 := (own_keep f32_72 t76)
   have no84 := no_new f32_85 g79
   have t52.here_87 := (Ext.keep t76 (Ext.keep t61 (Ext.keep t59 t52.here_58)))
   have n86_b44_b79 := ne_lt (lt_of t52.here_87) g79
   have x89 := (Touch.trans x73 (Ext.touch t76))
   have yb79_88 := Nat.le_trans (Touch.size x89) g79
   have f32_91 := (own_keep f32_85 t79)
   refine sapp (m := 1) (news := [.bool true]) z79 rfl el_52 f32_91 ((u79.past 149 rfl).trans ((u78.past 149 rfl).trans (u77.here _ rfl))) (u79.here _ rfl) rfl (news_of hb79) rfl (by omega) (by omega) ?_; intro A90 cp90 w90 a90 t90 u90 z90
   have x93 := (Touch.trans x89 (Ext.touch t79))
   have hb1_95 := (Ext.keep t79 hb1_81)
   have no94 := App.no t90 (lt_of hb1_95) (fun (jQ : Nat) hQ (eQ : jQ = b1) => (fun (eQ : some b1 = _) => hno_b1 _ eQ.symm rfl) (by rw [← eQ]; exact hQ.symm))
   have ho6_97 := (own_keep ho6_83 t79)
   have no96 := App.nor t90 (fun jQ hQ => own_lt ho6_97 hQ) hnor_0
   have t52.here_99 := (Ext.keep t79 t52.here_87)
   have no98 := App.no t90 (lt_of t52.here_99) (fun (jQ : Nat) hQ (eQ : jQ = b44) => (fun (eQ : some b44 = _) => no49 _ eQ.symm rfl) (by rw [← eQ]; exact hQ.symm))
   have no100 := App.no t90 (lt_of hb79) (fun (jQ : Nat) hQ (eQ : jQ = b79) => (fun (eQ : some b79 = _) => no84 _ eQ.symm rfl) (by rw [← eQ]; exact hQ.symm))
   have no101 := App.base t90 (Touch.size x93) hbase
   refine sp z90 rfl rfl (ex_assign (u90.here _ rfl)) ?_; intro a102 u102 z102
   have d103 := (u102.defs.trans (u90.defs.trans (u79.defs.trans (u78.defs.trans (u77.defs.trans d76)))))
   refine seq_end ?_
   repeat (with_reducible refine block_norm ?_)
   refine hK37 _ _ ?_
   have p105 := fr4 u78.past u79.past u90.past u102.past
   have s104_7 := ((p105 7 rfl).trans ((u77.past 7 rfl).trans ((q76 7 rfl).trans s69_7)))
   refine rg mixed 154 [.eq (.int .i64 (k : Int)), .eq (.int .i64 ((k : Int) + 1)), .eq (.int .i64 ((k : Int) + 1))] [[(7, none)], [(17, some 0)], [(18, some 1)]] d103 z102 (by kernel_rfl) ⟨Ov rfl rfl fun _ _ T ⟨k7, _⟩ => ex_move (k7.trans s104_7), Ov rfl rfl fun _ _ T ⟨k17, _⟩ => ex_add64 k17 rfl (by omega), Ov rfl rfl fun _ _ T ⟨k18, _⟩ => ex_assign k18, trivial⟩ ?_
   intro a106 w106 d106 z106 t106 e106 q106
   repeat (with_reducible refine block_norm ?_)
   have s107_0 := ((q106 0 rfl).trans ((p105 0 rfl).trans ((u77.past 0 rfl).trans ((q76 0 rfl).trans s62_0))))
   have s108_3 := ((q106 3 rfl).trans ((p105 3 rfl).trans ((u77.past 3 rfl).trans ((q76 3 rfl).trans s65_3))))
   have s109_4 := ((q106 4 rfl).trans ((p105 4 rfl).trans ((u77.past 4 rfl).trans ((q76 4 rfl).trans s66_4))))
   have s110_5 := ((q106 5 rfl).trans ((p105 5 rfl).trans ((u77.past 5 rfl).trans ((q76 5 rfl).trans s67_5))))
   have s111_6 : a102.eval (.tmp 6) = .slice A90 (k + 1) cp90 := (u102.here _ rfl)
   have s112_6 := ((q106 6 rfl).trans s111_6)
   have s113_7 : a106.eval (.tmp 7) = .int .i64 ((k : Int) + 1) := e106.2.2.1
   have x114 := (Touch.trans (Touch.via x93 t90.touch (fun jQ hQ => Or.inr (hbase jQ hQ.symm))) (Ext.touch t106))
   have hb1_115 := (Ext.keep t106 (Touch.keep t90.touch hb1_95 (fun (eQ : some b1 = _) => hno_b1 _ eQ.symm rfl)))
   have ho6_116 := (own_keep (own_touch ho6_97 t90.touch (fun jQ hQ eQ => (nor_symm hnor_0) jQ hQ eQ.symm)) t106)
   have t90.own_117 := (own_keep t90.own t106)
   refine then_norm ?_
   refine ⟨_, ⟨k + 1, A90, cp90, rfl, d106, z106, s107_0, s108_3, s109_4, s110_5, s112_6, (s113_7.trans (by first | rfl | (congr 1; omega) | (simp; omega) | simp)), x114, hb1_115, ho6_116, (by rw [semT_succ, ← flat_push, ← hval]; exact t90.own_117), by omega, no101, no94, no96⟩, ?_⟩; (show _ < _); rw [hmu15]; exact by omega
  ·have y74 := decide_eq_false c74
   have s118_25 : a61.eval (.tmp 25) = .bool (decide (((at_ L e0 (k : Int)).k) = 1)) := e61.2.1
   refine wp_cond_false (s118_25.trans (by rw [y74])) ?_
   have s119_24 := ((q61 24 rfl).trans s60_24)
   refine rgs mixed 154 [.eq (.bool (decide (((at_ L e0 (k : Int)).k) = 2))), .eq (.bool (decide (((at_ L e0 (k : Int)).k) = 2)))] [[(24, none)], [(28, some 0)]] d61 z61 (by kernel_rfl) ⟨Ov rfl rfl fun _ _ T ⟨k24, _⟩ => ex_eql (k24.trans s119_24) rfl, Ov rfl rfl fun _ _ T ⟨k28, _⟩ => ex_assign k28, trivial⟩ ?_
   intro a120 w120 d120 z120 t120 e120 q120
   have t52.here_121 := (Ext.keep t120 (Ext.keep t61 (Ext.keep t59 t52.here_58)))
   by_cases c122 : ((at_ L e0 (k : Int)).k) = 2
   ·have y122 := decide_eq_true c122
    have s123_27 : a120.eval (.tmp 27) = .bool (decide (((at_ L e0 (k : Int)).k) = 2)) := e120.2.1
    refine wp_cond_true (s123_27.trans (by rw [y122])) ?_
    have s124_5 := ((q120 5 rfl).trans s67_5)
    have s125_8 := ((q120 8 rfl).trans ((q61 8 rfl).trans ((q59 8 rfl).trans s57_8)))
    have ho6_126 := (own_keep ho6_71 t120)
    refine rg mixed 154 [.eq (.slice A6 104 c6), .eq (.pointer (some ⟨b44, 4, none⟩)), .eq (.int .i64 ((at_ L e0 (k : Int)).v)), .eq (.pointer (some ⟨(rowB A6), Int.toNat ((at_ L e0 (k : Int)).v) * 1, none⟩)), .eq (.bool (at_ (bitsV (hB x) 104) false ((at_ L e0 (k : Int)).v))), .eq (.pointer (some ⟨b44, 5, none⟩)), .eq (.bool ((at_ L e0 (k : Int)).on)), .eq (.bool ((at_ (bitsV (hB x) 104) false ((at_ L e0 (k : Int)).v)) == ((at_ L e0 (k : Int)).on))), .eq (.bool ((at_ (bitsV (hB x) 104) false ((at_ L e0 (k : Int)).v)) == ((at_ L e0 (k : Int)).on)))] [[(5, none)], [(8, none)], [(30, some 1)], [(29, some 0), (31, some 2)], [(32, some 3)], [(8, none)], [(34, some 5)], [(33, some 4), (35, some 6)], [(36, some 7)]] d120 z120 (by kernel_rfl) ⟨Ov rfl rfl fun _ _ T ⟨k5, _⟩ => ex_move (k5.trans s124_5),
     Ov rfl rfl fun _ _ T ⟨k8, _⟩ => ex_fieldAddr (k8.trans s125_8) (fa_139_4 _ _ _),
     Ov rfl rfl fun _ _ T ⟨k30, _⟩ => ex_load k30 (Try.isAgg3 _) (cell_of (Ext.keep T.ext t52.here_121) rfl),
     Ov rfl rfl fun _ _ T ⟨k29, k31, _⟩ => ex_ixa Try.underlying52 (Try.sizeOf4 _) k29 (own_eqA ho6_126 (by omega)) k31 (by omega) (by omega),
     Ov rfl rfl fun _ _ T ⟨k32, _⟩ => ex_load k32 (Try.isAgg4 _) (own_at (own_keep ho6_126 T.ext) (own_eqA ho6_126 (by omega)) bov1_1 (at_some' (d := false) ((bitsV_len _ _).symm) (by omega) (by omega)) 0 rfl),
     Ov rfl rfl fun _ _ T ⟨k8, _⟩ => ex_fieldAddr (k8.trans s125_8) (fa_139_5 _ _ _),
     Ov rfl rfl fun _ _ T ⟨k34, _⟩ => ex_load k34 (Try.isAgg4 _) (cell_of (Ext.keep T.ext t52.here_121) rfl),
     Ov rfl rfl fun _ _ T ⟨k33, k35, _⟩ => ex_eqlb Try.underlying4 k33 k35,
     Ov rfl rfl fun _ _ T ⟨k36, _⟩ => ex_assign k36,
     trivial⟩ ?_
    intro a127 w127 d127 z127 t127 e127 q127
    repeat (with_reducible refine block_norm ?_)
    refine hK55 _ _ ?_
    have hval : ((at_ (bitsV (hB x) 104) false ((at_ L e0 (k : Int)).v)) == ((at_ L e0 (k : Int)).on)) = sem L (k : Int) (hB x) := by
     rw [sem_k2 (i := (k : Int)) hR (by omega) (by omega) _ (by omega), at_bitsV (by omega) (by omega)]
    refine seq_begin ?_
    refine sp z127 rfl rfl (ex_move ((q127 6 rfl).trans ((q120 6 rfl).trans s68_6))) ?_; intro a128 u128 z128
    refine sp z128 rfl rfl (ex_move ((u128.past 9 rfl).trans e127.2.2.2.2.2.2.2.2.1)) ?_; intro a129 u129 z129
    refine snew (mk := fun bQ => .slice (some ⟨bQ, 0, none⟩) 1 1) z129 rfl rfl (exl_buildSlice (cons_parts (u129.here _ rfl) nil_parts) (bs_52_1_0B ((at_ (bitsV (hB x) 104) false ((at_ L e0 (k : Int)).v)) == ((at_ L e0 (k : Int)).on)) _)) ?_; intro b130 w130 a130 t130 g130 hb130 u130 z130
    have hb1_132 := (Ext.keep t127 (Ext.keep t120 hb1_70))
    have n131_b1_b130 := ne_lt (lt_of hb1_132) g130
    have ho6_134 := (own_keep ho6_126 t127)
    have no133 := no_new ho6_134 g130
    have f32_136 := (own_keep (own_keep f32_72 t120) t127)
    have no135 := no_new f32_136 g130
    have t52.here_138 := (Ext.keep t127 t52.here_121)
    have n137_b44_b130 := ne_lt (lt_of t52.here_138) g130
    have x140 := (Touch.trans (Touch.trans x73 (Ext.touch t120)) (Ext.touch t127))
    have yb130_139 := Nat.le_trans (Touch.size x140) g130
    have f32_142 := (own_keep f32_136 t130)
    refine sapp (m := 1) (news := [.bool ((at_ (bitsV (hB x) 104) false ((at_ L e0 (k : Int)).v)) == ((at_ L e0 (k : Int)).on))]) z130 rfl el_52 f32_142 ((u130.past 149 rfl).trans ((u129.past 149 rfl).trans (u128.here _ rfl))) (u130.here _ rfl) rfl (news_of hb130) rfl (by omega) (by omega) ?_; intro A141 cp141 w141 a141 t141 u141 z141
    have x144 := (Touch.trans x140 (Ext.touch t130))
    have hb1_146 := (Ext.keep t130 hb1_132)
    have no145 := App.no t141 (lt_of hb1_146) (fun (jQ : Nat) hQ (eQ : jQ = b1) => (fun (eQ : some b1 = _) => hno_b1 _ eQ.symm rfl) (by rw [← eQ]; exact hQ.symm))
    have ho6_148 := (own_keep ho6_134 t130)
    have no147 := App.nor t141 (fun jQ hQ => own_lt ho6_148 hQ) hnor_0
    have t52.here_150 := (Ext.keep t130 t52.here_138)
    have no149 := App.no t141 (lt_of t52.here_150) (fun (jQ : Nat) hQ (eQ : jQ = b44) => (fun (eQ : some b44 = _) => no49 _ eQ.symm rfl) (by rw [← eQ]; exact hQ.symm))
    have no151 := App.no t141 (lt_of hb130) (fun (jQ : Nat) hQ (eQ : jQ = b130) => (fun (eQ : some b130 = _) => no135 _ eQ.symm rfl) (by rw [← eQ]; exact hQ.symm))
    have no152 := App.base t141 (Touch.size x144) hbase
    refine sp z141 rfl rfl (ex_assign (u141.here _ rfl)) ?_; intro a153 u153 z153
    have d154 := (u153.defs.trans (u141.defs.trans (u130.defs.trans (u129.defs.trans (u128.defs.trans d127)))))
    refine seq_end ?_
    repeat (with_reducible refine block_norm ?_)
    refine hK37 _ _ ?_
    have p156 := fr4 u128.past u129.past u130.past u141.past
    have s155_7 := ((u153.past 7 rfl).trans ((p156 7 rfl).trans ((q127 7 rfl).trans ((q120 7 rfl).trans s69_7))))
    refine rg mixed 154 [.eq (.int .i64 (k : Int)), .eq (.int .i64 ((k : Int) + 1)), .eq (.int .i64 ((k : Int) + 1))] [[(7, none)], [(17, some 0)], [(18, some 1)]] d154 z153 (by kernel_rfl) ⟨Ov rfl rfl fun _ _ T ⟨k7, _⟩ => ex_move (k7.trans s155_7), Ov rfl rfl fun _ _ T ⟨k17, _⟩ => ex_add64 k17 rfl (by omega), Ov rfl rfl fun _ _ T ⟨k18, _⟩ => ex_assign k18, trivial⟩ ?_
    intro a157 w157 d157 z157 t157 e157 q157
    repeat (with_reducible refine block_norm ?_)
    have s158_0 := ((q157 0 rfl).trans ((u153.past 0 rfl).trans ((p156 0 rfl).trans ((q127 0 rfl).trans ((q120 0 rfl).trans s62_0)))))
    have s159_3 := ((q157 3 rfl).trans ((u153.past 3 rfl).trans ((p156 3 rfl).trans ((q127 3 rfl).trans ((q120 3 rfl).trans s65_3)))))
    have s160_4 := ((q157 4 rfl).trans ((u153.past 4 rfl).trans ((p156 4 rfl).trans ((q127 4 rfl).trans ((q120 4 rfl).trans s66_4)))))
    have s161_5 := ((q157 5 rfl).trans ((u153.past 5 rfl).trans ((p156 5 rfl).trans ((q127 5 rfl).trans s124_5))))
    have s162_6 : a153.eval (.tmp 6) = .slice A141 (k + 1) cp141 := (u153.here _ rfl)
    have s163_6 := ((q157 6 rfl).trans s162_6)
    have s164_7 : a157.eval (.tmp 7) = .int .i64 ((k : Int) + 1) := e157.2.2.1
    have x165 := (Touch.trans (Touch.via x144 t141.touch (fun jQ hQ => Or.inr (hbase jQ hQ.symm))) (Ext.touch t157))
    have hb1_166 := (Ext.keep t157 (Touch.keep t141.touch hb1_146 (fun (eQ : some b1 = _) => hno_b1 _ eQ.symm rfl)))
    have ho6_167 := (own_keep (own_touch ho6_148 t141.touch (fun jQ hQ eQ => (nor_symm hnor_0) jQ hQ eQ.symm)) t157)
    have t141.own_168 := (own_keep t141.own t157)
    refine then_norm ?_
    refine ⟨_, ⟨k + 1, A141, cp141, rfl, d157, z157, s158_0, s159_3, s160_4, s161_5, s163_6, (s164_7.trans (by first | rfl | (congr 1; omega) | (simp; omega) | simp)), x165, hb1_166, ho6_167, (by rw [semT_succ, ← flat_push, ← hval]; exact t141.own_168), by omega, no152, no145, no147⟩, ?_⟩; (show _ < _); rw [hmu15]; exact by omega
   ·have y122 := decide_eq_false c122
    have s169_27 : a120.eval (.tmp 27) = .bool (decide (((at_ L e0 (k : Int)).k) = 2)) := e120.2.1
    refine wp_cond_false (s169_27.trans (by rw [y122])) ?_
    have s170_24 := ((q120 24 rfl).trans s119_24)
    refine rgs mixed 154 [.eq (.bool (decide (((at_ L e0 (k : Int)).k) = 3))), .eq (.bool (decide (((at_ L e0 (k : Int)).k) = 3)))] [[(24, none)], [(38, some 0)]] d120 z120 (by kernel_rfl) ⟨Ov rfl rfl fun _ _ T ⟨k24, _⟩ => ex_eql (k24.trans s170_24) rfl, Ov rfl rfl fun _ _ T ⟨k38, _⟩ => ex_assign k38, trivial⟩ ?_
    intro a171 w171 d171 z171 t171 e171 q171
    have x172 := (Touch.trans (Touch.trans x73 (Ext.touch t120)) (Ext.touch t171))
    by_cases c173 : ((at_ L e0 (k : Int)).k) = 3
    ·have y173 := decide_eq_true c173
     have s174_37 : a171.eval (.tmp 37) = .bool (decide (((at_ L e0 (k : Int)).k) = 3)) := e171.2.1
     refine wp_cond_true (s174_37.trans (by rw [y173])) ?_
     have habc := hx.abc (by omega)
     have ea := at_semT (L := L) (v := hB x) (k := k) habc.1.1 habc.1.2; have eb := at_semT (L := L) (v := hB x) (k := k) habc.2.1.1 habc.2.1.2; have ec := at_semT (L := L) (v := hB x) (k := k) habc.2.2.1 habc.2.2.2
     have s175_6 := ((q171 6 rfl).trans ((q120 6 rfl).trans s68_6))
     have p177 := fr4 q59 q61 q120 q171
     have s176_8 := ((p177 8 rfl).trans s57_8)
     have t52.here_178 := (Ext.keep t171 t52.here_121)
     have f32_179 := (own_keep (own_keep f32_72 t120) t171)
     refine rg mixed 154 [.eq (.slice A1 k c1), .eq (.pointer (some ⟨b44, 1, none⟩)), .eq (.int .i64 ((at_ L e0 (k : Int)).a)), .eq (.pointer (some ⟨(rowB A1), Int.toNat ((at_ L e0 (k : Int)).a) * 1, none⟩)), .eq (.bool (at_ (semT L (hB x) k) false ((at_ L e0 (k : Int)).a))), .eq (.bool (at_ (semT L (hB x) k) false ((at_ L e0 (k : Int)).a))), .eq (if (at_ (semT L (hB x) k) false ((at_ L e0 (k : Int)).a)) = true then .slice A1 k c1 else undef), .eq (if (at_ (semT L (hB x) k) false ((at_ L e0 (k : Int)).a)) = true then .pointer (some ⟨b44, 2, none⟩) else undef), .eq (if (at_ (semT L (hB x) k) false ((at_ L e0 (k : Int)).a)) = true then .int .i64 ((at_ L e0 (k : Int)).b) else undef), .eq (if (at_ (semT L (hB x) k) false ((at_ L e0 (k : Int)).a)) = true then .pointer (some ⟨(rowB A1), Int.toNat ((at_ L e0 (k : Int)).b) * 1, none⟩) else undef), .eq (if (at_ (semT L (hB x) k) false ((at_ L e0 (k : Int)).a)) = true then .bool (at_ (semT L (hB x) k) false ((at_ L e0 (k : Int)).b)) else undef), .eq (.bool ((at_ (semT L (hB x) k) false ((at_ L e0 (k : Int)).a)) && (at_ (semT L (hB x) k) false ((at_ L e0 (k : Int)).b)))), .eq (.bool ((at_ (semT L (hB x) k) false ((at_ L e0 (k : Int)).a)) && (at_ (semT L (hB x) k) false ((at_ L e0 (k : Int)).b))))] [[(6, none)], [(8, none)], [(40, some 1)], [(39, some 0), (41, some 2)], [(42, some 3)], [(43, some 4)], [(6, none), (44, some 5)], [(8, none), (44, some 5)], [(46, some 7), (44, some 5)], [(45, some 6), (47, some 8), (44, some 5)], [(48, some 9), (44, some 5)], [(44, some 5), (49, some 10)], [(50, some 11)]] d171 z171 (by kernel_rfl) ⟨Ov rfl rfl fun _ _ T ⟨k6, _⟩ => ex_move (k6.trans s175_6),
      Ov rfl rfl fun _ _ T ⟨k8, _⟩ => ex_fieldAddr (k8.trans s176_8) (fa_139_1 _ _ _),
      Ov rfl rfl fun _ _ T ⟨k40, _⟩ => ex_load k40 (Try.isAgg3 _) (cell_of (Ext.keep T.ext t52.here_178) rfl),
      Ov rfl rfl fun _ _ T ⟨k39, k41, _⟩ => ex_ixa Try.underlying52 (Try.sizeOf4 _) k39 (own_eqA f32_179 (by omega)) k41 (by omega) (by omega),
      Ov rfl rfl fun _ _ T ⟨k42, _⟩ => ex_load k42 (Try.isAgg4 _) (own_at (own_keep f32_179 T.ext) (own_eqA f32_179 (by omega)) bov1_1 (at_some' (d := false) ((semT_len _ _ _).symm) (by omega) (by omega)) 0 rfl),
      Ov rfl rfl fun _ _ T ⟨k43, _⟩ => ex_move k43,
      Og rfl rfl rfl fun _ _ T ⟨k6, k44, _⟩ => ⟨k44, fun hcQ => ex_move (k6.trans s175_6)⟩,
      Og rfl rfl rfl fun _ _ T ⟨k8, k44, _⟩ => ⟨k44, fun hcQ => ex_fieldAddr (k8.trans s176_8) (fa_139_2 _ _ _)⟩,
      Og rfl rfl rfl fun _ _ T ⟨k46, k44, _⟩ => ⟨k44, fun hcQ => ex_load (k46.trans (if_pos hcQ)) (Try.isAgg3 _) (cell_of (Ext.keep T.ext t52.here_178) rfl)⟩,
      Og rfl rfl rfl fun _ _ T ⟨k45, k47, k44, _⟩ => ⟨k44, fun hcQ => by have hdQ := hcQ; (try simp only [Bool.and_eq_true, Bool.or_eq_false_iff, Bool.not_eq_true', Bool.not_eq_false', beq_iff_eq, decide_eq_true_eq, decide_eq_false_iff_not] at hdQ); exact ex_ixa Try.underlying52 (Try.sizeOf4 _) (k45.trans (if_pos hcQ)) (own_eqA f32_179 (by omega)) (k47.trans (if_pos hcQ)) (by omega) (by omega)⟩,
      Og rfl rfl rfl fun _ _ T ⟨k48, k44, _⟩ => ⟨k44, fun hcQ => by have hdQ := hcQ; (try simp only [Bool.and_eq_true, Bool.or_eq_false_iff, Bool.not_eq_true', Bool.not_eq_false', beq_iff_eq, decide_eq_true_eq, decide_eq_false_iff_not] at hdQ); exact ex_load (k48.trans (if_pos hcQ)) (Try.isAgg4 _) (own_at (own_keep f32_179 T.ext) (own_eqA f32_179 (by omega)) bov1_1 (at_some' (d := false) ((semT_len _ _ _).symm) (by omega) (by omega)) 0 rfl)⟩,
      Ov rfl rfl fun _ _ T ⟨k44, k49, _⟩ => ex_pick_and k44 k49 rfl,
      Ov rfl rfl fun _ _ T ⟨k50, _⟩ => ex_assign k50,
      trivial⟩ ?_
     intro a180 w180 d180 z180 t180 e180 q180
     repeat (with_reducible refine block_norm ?_)
     refine hK55 _ _ ?_
     have key : ∀ pa pb pc : Bool, (pa && pb) = (opK (3 - 3) pa pb) := by decide
     have hval : ((at_ (semT L (hB x) k) false ((at_ L e0 (k : Int)).a)) && (at_ (semT L (hB x) k) false ((at_ L e0 (k : Int)).b))) = sem L (k : Int) (hB x) := by
      have hkk : (at_ L e0 (k : Int)).k = 3 := by omega
      rw [sem_kj (i := (k : Int)) hR (by omega) (by omega) _ (by omega) (by omega), ← ea, ← eb, hkk]
      first | done | exact key (at_ (semT L (hB x) k) false ((at_ L e0 (k : Int)).a)) (at_ (semT L (hB x) k) false ((at_ L e0 (k : Int)).b)) (at_ (semT L (hB x) k) false ((at_ L e0 (k : Int)).c))
     refine seq_begin ?_
     refine sp z180 rfl rfl (ex_move ((q180 6 rfl).trans s175_6)) ?_; intro a181 u181 z181
     refine sp z181 rfl rfl (ex_move ((u181.past 9 rfl).trans e180.2.2.2.2.2.2.2.2.2.2.2.2.1)) ?_; intro a182 u182 z182
     refine snew (mk := fun bQ => .slice (some ⟨bQ, 0, none⟩) 1 1) z182 rfl rfl (exl_buildSlice (cons_parts (u182.here _ rfl) nil_parts) (bs_52_1_0B ((at_ (semT L (hB x) k) false ((at_ L e0 (k : Int)).a)) && (at_ (semT L (hB x) k) false ((at_ L e0 (k : Int)).b))) _)) ?_; intro b183 w183 a183 t183 g183 hb183 u183 z183
     have hb1_185 := (Ext.keep t180 (Ext.keep t171 (Ext.keep t120 hb1_70)))
     have n184_b1_b183 := ne_lt (lt_of hb1_185) g183
     have ho6_187 := (own_keep (own_keep (own_keep ho6_71 t120) t171) t180)
     have no186 := no_new ho6_187 g183
     have f32_189 := (own_keep f32_179 t180)
     have no188 := no_new f32_189 g183
     have t52.here_191 := (Ext.keep t180 t52.here_178)
     have n190_b44_b183 := ne_lt (lt_of t52.here_191) g183
     have x193 := (Touch.trans x172 (Ext.touch t180))
     have yb183_192 := Nat.le_trans (Touch.size x193) g183
     have f32_195 := (own_keep f32_189 t183)
     refine sapp (m := 1) (news := [.bool ((at_ (semT L (hB x) k) false ((at_ L e0 (k : Int)).a)) && (at_ (semT L (hB x) k) false ((at_ L e0 (k : Int)).b)))]) z183 rfl el_52 f32_195 ((u183.past 149 rfl).trans ((u182.past 149 rfl).trans (u181.here _ rfl))) (u183.here _ rfl) rfl (news_of hb183) rfl (by omega) (by omega) ?_; intro A194 cp194 w194 a194 t194 u194 z194
     have x197 := (Touch.trans x193 (Ext.touch t183))
     have hb1_199 := (Ext.keep t183 hb1_185)
     have no198 := App.no t194 (lt_of hb1_199) (fun (jQ : Nat) hQ (eQ : jQ = b1) => (fun (eQ : some b1 = _) => hno_b1 _ eQ.symm rfl) (by rw [← eQ]; exact hQ.symm))
     have ho6_201 := (own_keep ho6_187 t183)
     have no200 := App.nor t194 (fun jQ hQ => own_lt ho6_201 hQ) hnor_0
     have t52.here_203 := (Ext.keep t183 t52.here_191)
     have no202 := App.no t194 (lt_of t52.here_203) (fun (jQ : Nat) hQ (eQ : jQ = b44) => (fun (eQ : some b44 = _) => no49 _ eQ.symm rfl) (by rw [← eQ]; exact hQ.symm))
     have no204 := App.no t194 (lt_of hb183) (fun (jQ : Nat) hQ (eQ : jQ = b183) => (fun (eQ : some b183 = _) => no188 _ eQ.symm rfl) (by rw [← eQ]; exact hQ.symm))
     have no205 := App.base t194 (Touch.size x197) hbase
     refine sp z194 rfl rfl (ex_assign (u194.here _ rfl)) ?_; intro a206 u206 z206
     have d207 := (u206.defs.trans (u194.defs.trans (u183.defs.trans (u182.defs.trans (u181.defs.trans d180)))))
     refine seq_end ?_
     repeat (with_reducible refine block_norm ?_)
     refine hK37 _ _ ?_
     have p209 := fr4 q180 u181.past u182.past u183.past
     have s208_7 := ((u206.past 7 rfl).trans ((u194.past 7 rfl).trans ((p209 7 rfl).trans ((q171 7 rfl).trans ((q120 7 rfl).trans s69_7)))))
     refine rg mixed 154 [.eq (.int .i64 (k : Int)), .eq (.int .i64 ((k : Int) + 1)), .eq (.int .i64 ((k : Int) + 1))] [[(7, none)], [(17, some 0)], [(18, some 1)]] d207 z206 (by kernel_rfl) ⟨Ov rfl rfl fun _ _ T ⟨k7, _⟩ => ex_move (k7.trans s208_7), Ov rfl rfl fun _ _ T ⟨k17, _⟩ => ex_add64 k17 rfl (by omega), Ov rfl rfl fun _ _ T ⟨k18, _⟩ => ex_assign k18, trivial⟩ ?_
     intro a210 w210 d210 z210 t210 e210 q210
     repeat (with_reducible refine block_norm ?_)
     have s211_0 := ((q210 0 rfl).trans ((u206.past 0 rfl).trans ((u194.past 0 rfl).trans ((p209 0 rfl).trans ((q171 0 rfl).trans ((q120 0 rfl).trans s62_0))))))
     have s212_3 := ((q210 3 rfl).trans ((u206.past 3 rfl).trans ((u194.past 3 rfl).trans ((p209 3 rfl).trans ((q171 3 rfl).trans ((q120 3 rfl).trans s65_3))))))
     have s213_4 := ((q210 4 rfl).trans ((u206.past 4 rfl).trans ((u194.past 4 rfl).trans ((p209 4 rfl).trans ((q171 4 rfl).trans ((q120 4 rfl).trans s66_4))))))
     have s214_5 := ((q210 5 rfl).trans ((u206.past 5 rfl).trans ((u194.past 5 rfl).trans ((p209 5 rfl).trans ((q171 5 rfl).trans ((q120 5 rfl).trans s67_5))))))
     have s215_6 : a206.eval (.tmp 6) = .slice A194 (k + 1) cp194 := (u206.here _ rfl)
     have s216_6 := ((q210 6 rfl).trans s215_6)
     have s217_7 : a210.eval (.tmp 7) = .int .i64 ((k : Int) + 1) := e210.2.2.1
     have x218 := (Touch.trans (Touch.via x197 t194.touch (fun jQ hQ => Or.inr (hbase jQ hQ.symm))) (Ext.touch t210))
     have hb1_219 := (Ext.keep t210 (Touch.keep t194.touch hb1_199 (fun (eQ : some b1 = _) => hno_b1 _ eQ.symm rfl)))
     have ho6_220 := (own_keep (own_touch ho6_201 t194.touch (fun jQ hQ eQ => (nor_symm hnor_0) jQ hQ eQ.symm)) t210)
     have t194.own_221 := (own_keep t194.own t210)
     refine then_norm ?_
     refine ⟨_, ⟨k + 1, A194, cp194, rfl, d210, z210, s211_0, s212_3, s213_4, s214_5, s216_6, (s217_7.trans (by first | rfl | (congr 1; omega) | (simp; omega) | simp)), x218, hb1_219, ho6_220, (by rw [semT_succ, ← flat_push, ← hval]; exact t194.own_221), by omega, no205, no198, no200⟩, ?_⟩; (show _ < _); rw [hmu15]; exact by omega
    ·have y173 := decide_eq_false c173
     have s222_37 : a171.eval (.tmp 37) = .bool (decide (((at_ L e0 (k : Int)).k) = 3)) := e171.2.1
     refine wp_cond_false (s222_37.trans (by rw [y173])) ?_
     have s223_24 := ((q171 24 rfl).trans s170_24)
     refine rgs mixed 154 [.eq (.bool (decide (((at_ L e0 (k : Int)).k) = 4))), .eq (.bool (decide (((at_ L e0 (k : Int)).k) = 4)))] [[(24, none)], [(52, some 0)]] d171 z171 (by kernel_rfl) ⟨Ov rfl rfl fun _ _ T ⟨k24, _⟩ => ex_eql (k24.trans s223_24) rfl, Ov rfl rfl fun _ _ T ⟨k52, _⟩ => ex_assign k52, trivial⟩ ?_
     intro a224 w224 d224 z224 t224 e224 q224
     have s225_0 := ((q224 0 rfl).trans ((q171 0 rfl).trans ((q120 0 rfl).trans s62_0)))
     have s226_3 := ((q224 3 rfl).trans ((q171 3 rfl).trans ((q120 3 rfl).trans s65_3)))
     have s227_4 := ((q224 4 rfl).trans ((q171 4 rfl).trans ((q120 4 rfl).trans s66_4)))
     have s228_5 := ((q224 5 rfl).trans ((q171 5 rfl).trans ((q120 5 rfl).trans s67_5)))
     have s229_6 := ((q224 6 rfl).trans ((q171 6 rfl).trans ((q120 6 rfl).trans s68_6)))
     have s230_7 := ((q224 7 rfl).trans ((q171 7 rfl).trans ((q120 7 rfl).trans s69_7)))
     have hb1_231 := (Ext.keep t224 (Ext.keep t171 (Ext.keep t120 hb1_70)))
     have ho6_232 := (own_keep (own_keep (own_keep ho6_71 t120) t171) t224)
     have f32_233 := (own_keep (own_keep (own_keep f32_72 t120) t171) t224)
     by_cases c234 : ((at_ L e0 (k : Int)).k) = 4
     ·have y234 := decide_eq_true c234
      have s235_51 : a224.eval (.tmp 51) = .bool (decide (((at_ L e0 (k : Int)).k) = 4)) := e224.2.1
      refine wp_cond_true (s235_51.trans (by rw [y234])) ?_
      have habc := hx.abc (by omega)
      have ea := at_semT (L := L) (v := hB x) (k := k) habc.1.1 habc.1.2; have eb := at_semT (L := L) (v := hB x) (k := k) habc.2.1.1 habc.2.1.2; have ec := at_semT (L := L) (v := hB x) (k := k) habc.2.2.1 habc.2.2.2
      have p237 := fr4 q59 q61 q120 q171
      have s236_8 := ((q224 8 rfl).trans ((p237 8 rfl).trans s57_8))
      have t52.here_238 := (Ext.keep t224 (Ext.keep t171 t52.here_121))
      refine rg mixed 154 [.eq (.slice A1 k c1), .eq (.pointer (some ⟨b44, 1, none⟩)), .eq (.int .i64 ((at_ L e0 (k : Int)).a)), .eq (.pointer (some ⟨(rowB A1), Int.toNat ((at_ L e0 (k : Int)).a) * 1, none⟩)), .eq (.bool (at_ (semT L (hB x) k) false ((at_ L e0 (k : Int)).a))), .eq (.bool (at_ (semT L (hB x) k) false ((at_ L e0 (k : Int)).a))), .eq (if (at_ (semT L (hB x) k) false ((at_ L e0 (k : Int)).a)) = false then .slice A1 k c1 else undef), .eq (if (at_ (semT L (hB x) k) false ((at_ L e0 (k : Int)).a)) = false then .pointer (some ⟨b44, 2, none⟩) else undef), .eq (if (at_ (semT L (hB x) k) false ((at_ L e0 (k : Int)).a)) = false then .int .i64 ((at_ L e0 (k : Int)).b) else undef), .eq (if (at_ (semT L (hB x) k) false ((at_ L e0 (k : Int)).a)) = false then .pointer (some ⟨(rowB A1), Int.toNat ((at_ L e0 (k : Int)).b) * 1, none⟩) else undef), .eq (if (at_ (semT L (hB x) k) false ((at_ L e0 (k : Int)).a)) = false then .bool (at_ (semT L (hB x) k) false ((at_ L e0 (k : Int)).b)) else undef), .eq (.bool ((at_ (semT L (hB x) k) false ((at_ L e0 (k : Int)).a)) || (at_ (semT L (hB x) k) false ((at_ L e0 (k : Int)).b)))), .eq (.bool ((at_ (semT L (hB x) k) false ((at_ L e0 (k : Int)).a)) || (at_ (semT L (hB x) k) false ((at_ L e0 (k : Int)).b))))] [[(6, none)], [(8, none)], [(54, some 1)], [(53, some 0), (55, some 2)], [(56, some 3)], [(57, some 4)], [(6, none), (58, some 5)], [(8, none), (58, some 5)], [(60, some 7), (58, some 5)], [(59, some 6), (61, some 8), (58, some 5)], [(62, some 9), (58, some 5)], [(58, some 5), (63, some 10)], [(64, some 11)]] d224 z224 (by kernel_rfl) ⟨Ov rfl rfl fun _ _ T ⟨k6, _⟩ => ex_move (k6.trans s229_6),
       Ov rfl rfl fun _ _ T ⟨k8, _⟩ => ex_fieldAddr (k8.trans s236_8) (fa_139_1 _ _ _),
       Ov rfl rfl fun _ _ T ⟨k54, _⟩ => ex_load k54 (Try.isAgg3 _) (cell_of (Ext.keep T.ext t52.here_238) rfl),
       Ov rfl rfl fun _ _ T ⟨k53, k55, _⟩ => ex_ixa Try.underlying52 (Try.sizeOf4 _) k53 (own_eqA f32_233 (by omega)) k55 (by omega) (by omega),
       Ov rfl rfl fun _ _ T ⟨k56, _⟩ => ex_load k56 (Try.isAgg4 _) (own_at (own_keep f32_233 T.ext) (own_eqA f32_233 (by omega)) bov1_1 (at_some' (d := false) ((semT_len _ _ _).symm) (by omega) (by omega)) 0 rfl),
       Ov rfl rfl fun _ _ T ⟨k57, _⟩ => ex_move k57,
       Og rfl rfl rfl fun _ _ T ⟨k6, k58, _⟩ => ⟨k58, fun hcQ => ex_move (k6.trans s229_6)⟩,
       Og rfl rfl rfl fun _ _ T ⟨k8, k58, _⟩ => ⟨k58, fun hcQ => ex_fieldAddr (k8.trans s236_8) (fa_139_2 _ _ _)⟩,
       Og rfl rfl rfl fun _ _ T ⟨k60, k58, _⟩ => ⟨k58, fun hcQ => ex_load (k60.trans (if_pos hcQ)) (Try.isAgg3 _) (cell_of (Ext.keep T.ext t52.here_238) rfl)⟩,
       Og rfl rfl rfl fun _ _ T ⟨k59, k61, k58, _⟩ => ⟨k58, fun hcQ => by have hdQ := hcQ; (try simp only [Bool.and_eq_true, Bool.or_eq_false_iff, Bool.not_eq_true', Bool.not_eq_false', beq_iff_eq, decide_eq_true_eq, decide_eq_false_iff_not] at hdQ); exact ex_ixa Try.underlying52 (Try.sizeOf4 _) (k59.trans (if_pos hcQ)) (own_eqA f32_233 (by omega)) (k61.trans (if_pos hcQ)) (by omega) (by omega)⟩,
       Og rfl rfl rfl fun _ _ T ⟨k62, k58, _⟩ => ⟨k58, fun hcQ => by have hdQ := hcQ; (try simp only [Bool.and_eq_true, Bool.or_eq_false_iff, Bool.not_eq_true', Bool.not_eq_false', beq_iff_eq, decide_eq_true_eq, decide_eq_false_iff_not] at hdQ); exact ex_load (k62.trans (if_pos hcQ)) (Try.isAgg4 _) (own_at (own_keep f32_233 T.ext) (own_eqA f32_233 (by omega)) bov1_1 (at_some' (d := false) ((semT_len _ _ _).symm) (by omega) (by omega)) 0 rfl)⟩,
       Ov rfl rfl fun _ _ T ⟨k58, k63, _⟩ => ex_pick_or k58 rfl k63,
       Ov rfl rfl fun _ _ T ⟨k64, _⟩ => ex_assign k64,
       trivial⟩ ?_
      intro a239 w239 d239 z239 t239 e239 q239
      repeat (with_reducible refine block_norm ?_)
      refine hK55 _ _ ?_
      have key : ∀ pa pb pc : Bool, (pa || pb) = (opK (4 - 3) pa pb) := by decide
      have hval : ((at_ (semT L (hB x) k) false ((at_ L e0 (k : Int)).a)) || (at_ (semT L (hB x) k) false ((at_ L e0 (k : Int)).b))) = sem L (k : Int) (hB x) := by
       have hkk : (at_ L e0 (k : Int)).k = 4 := by omega
       rw [sem_kj (i := (k : Int)) hR (by omega) (by omega) _ (by omega) (by omega), ← ea, ← eb, hkk]
       first | done | exact key (at_ (semT L (hB x) k) false ((at_ L e0 (k : Int)).a)) (at_ (semT L (hB x) k) false ((at_ L e0 (k : Int)).b)) (at_ (semT L (hB x) k) false ((at_ L e0 (k : Int)).c))
      refine seq_begin ?_
      refine sp z239 rfl rfl (ex_move ((q239 6 rfl).trans s229_6)) ?_; intro a240 u240 z240
      refine sp z240 rfl rfl (ex_move ((u240.past 9 rfl).trans e239.2.2.2.2.2.2.2.2.2.2.2.2.1)) ?_; intro a241 u241 z241
      refine snew (mk := fun bQ => .slice (some ⟨bQ, 0, none⟩) 1 1) z241 rfl rfl (exl_buildSlice (cons_parts (u241.here _ rfl) nil_parts) (bs_52_1_0B ((at_ (semT L (hB x) k) false ((at_ L e0 (k : Int)).a)) || (at_ (semT L (hB x) k) false ((at_ L e0 (k : Int)).b))) _)) ?_; intro b242 w242 a242 t242 g242 hb242 u242 z242
      have hb1_244 := (Ext.keep t239 hb1_231)
      have n243_b1_b242 := ne_lt (lt_of hb1_244) g242
      have ho6_246 := (own_keep ho6_232 t239)
      have no245 := no_new ho6_246 g242
      have f32_248 := (own_keep f32_233 t239)
      have no247 := no_new f32_248 g242
      have t52.here_250 := (Ext.keep t239 t52.here_238)
      have n249_b44_b242 := ne_lt (lt_of t52.here_250) g242
      have x252 := (Touch.trans (Touch.trans x172 (Ext.touch t224)) (Ext.touch t239))
      have yb242_251 := Nat.le_trans (Touch.size x252) g242
      have f32_254 := (own_keep f32_248 t242)
      refine sapp (m := 1) (news := [.bool ((at_ (semT L (hB x) k) false ((at_ L e0 (k : Int)).a)) || (at_ (semT L (hB x) k) false ((at_ L e0 (k : Int)).b)))]) z242 rfl el_52 f32_254 ((u242.past 149 rfl).trans ((u241.past 149 rfl).trans (u240.here _ rfl))) (u242.here _ rfl) rfl (news_of hb242) rfl (by omega) (by omega) ?_; intro A253 cp253 w253 a253 t253 u253 z253
      have x256 := (Touch.trans x252 (Ext.touch t242))
      have hb1_258 := (Ext.keep t242 hb1_244)
      have no257 := App.no t253 (lt_of hb1_258) (fun (jQ : Nat) hQ (eQ : jQ = b1) => (fun (eQ : some b1 = _) => hno_b1 _ eQ.symm rfl) (by rw [← eQ]; exact hQ.symm))
      have ho6_260 := (own_keep ho6_246 t242)
      have no259 := App.nor t253 (fun jQ hQ => own_lt ho6_260 hQ) hnor_0
      have t52.here_262 := (Ext.keep t242 t52.here_250)
      have no261 := App.no t253 (lt_of t52.here_262) (fun (jQ : Nat) hQ (eQ : jQ = b44) => (fun (eQ : some b44 = _) => no49 _ eQ.symm rfl) (by rw [← eQ]; exact hQ.symm))
      have no263 := App.no t253 (lt_of hb242) (fun (jQ : Nat) hQ (eQ : jQ = b242) => (fun (eQ : some b242 = _) => no247 _ eQ.symm rfl) (by rw [← eQ]; exact hQ.symm))
      have no264 := App.base t253 (Touch.size x256) hbase
      refine sp z253 rfl rfl (ex_assign (u253.here _ rfl)) ?_; intro a265 u265 z265
      have d266 := (u265.defs.trans (u253.defs.trans (u242.defs.trans (u241.defs.trans (u240.defs.trans d239)))))
      refine seq_end ?_
      repeat (with_reducible refine block_norm ?_)
      refine hK37 _ _ ?_
      have s267_7 := ((u265.past 7 rfl).trans ((u253.past 7 rfl).trans ((u242.past 7 rfl).trans ((u241.past 7 rfl).trans ((u240.past 7 rfl).trans ((q239 7 rfl).trans s230_7))))))
      refine rg mixed 154 [.eq (.int .i64 (k : Int)), .eq (.int .i64 ((k : Int) + 1)), .eq (.int .i64 ((k : Int) + 1))] [[(7, none)], [(17, some 0)], [(18, some 1)]] d266 z265 (by kernel_rfl) ⟨Ov rfl rfl fun _ _ T ⟨k7, _⟩ => ex_move (k7.trans s267_7), Ov rfl rfl fun _ _ T ⟨k17, _⟩ => ex_add64 k17 rfl (by omega), Ov rfl rfl fun _ _ T ⟨k18, _⟩ => ex_assign k18, trivial⟩ ?_
      intro a268 w268 d268 z268 t268 e268 q268
      repeat (with_reducible refine block_norm ?_)
      have p270 := fr4 u242.past u253.past u265.past q268
      have s269_0 := ((p270 0 rfl).trans ((u241.past 0 rfl).trans ((u240.past 0 rfl).trans ((q239 0 rfl).trans s225_0))))
      have s271_3 := ((p270 3 rfl).trans ((u241.past 3 rfl).trans ((u240.past 3 rfl).trans ((q239 3 rfl).trans s226_3))))
      have s272_4 := ((p270 4 rfl).trans ((u241.past 4 rfl).trans ((u240.past 4 rfl).trans ((q239 4 rfl).trans s227_4))))
      have s273_5 := ((p270 5 rfl).trans ((u241.past 5 rfl).trans ((u240.past 5 rfl).trans ((q239 5 rfl).trans s228_5))))
      have s274_6 : a265.eval (.tmp 6) = .slice A253 (k + 1) cp253 := (u265.here _ rfl)
      have s275_6 := ((q268 6 rfl).trans s274_6)
      have s276_7 : a268.eval (.tmp 7) = .int .i64 ((k : Int) + 1) := e268.2.2.1
      have x277 := (Touch.trans (Touch.via x256 t253.touch (fun jQ hQ => Or.inr (hbase jQ hQ.symm))) (Ext.touch t268))
      have hb1_278 := (Ext.keep t268 (Touch.keep t253.touch hb1_258 (fun (eQ : some b1 = _) => hno_b1 _ eQ.symm rfl)))
      have ho6_279 := (own_keep (own_touch ho6_260 t253.touch (fun jQ hQ eQ => (nor_symm hnor_0) jQ hQ eQ.symm)) t268)
      have t253.own_280 := (own_keep t253.own t268)
      refine then_norm ?_
      refine ⟨_, ⟨k + 1, A253, cp253, rfl, d268, z268, s269_0, s271_3, s272_4, s273_5, s275_6, (s276_7.trans (by first | rfl | (congr 1; omega) | (simp; omega) | simp)), x277, hb1_278, ho6_279, (by rw [semT_succ, ← flat_push, ← hval]; exact t253.own_280), by omega, no264, no257, no259⟩, ?_⟩; (show _ < _); rw [hmu15]; exact by omega
     ·have y234 := decide_eq_false c234
      have s281_51 : a224.eval (.tmp 51) = .bool (decide (((at_ L e0 (k : Int)).k) = 4)) := e224.2.1
      refine wp_cond_false (s281_51.trans (by rw [y234])) ?_
      have s282_24 := ((q224 24 rfl).trans s223_24)
      refine rgs mixed 154 [.eq (.bool (decide (((at_ L e0 (k : Int)).k) = 5))), .eq (.bool (decide (((at_ L e0 (k : Int)).k) = 5)))] [[(24, none)], [(66, some 0)]] d224 z224 (by kernel_rfl) ⟨Ov rfl rfl fun _ _ T ⟨k24, _⟩ => ex_eql (k24.trans s282_24) rfl, Ov rfl rfl fun _ _ T ⟨k66, _⟩ => ex_assign k66, trivial⟩ ?_
      intro a283 w283 d283 z283 t283 e283 q283
      have t52.here_284 := (Ext.keep t283 (Ext.keep t224 (Ext.keep t171 t52.here_121)))
      have x285 := (Touch.trans (Touch.trans x172 (Ext.touch t224)) (Ext.touch t283))
      by_cases c286 : ((at_ L e0 (k : Int)).k) = 5
      ·have y286 := decide_eq_true c286
       have s287_65 : a283.eval (.tmp 65) = .bool (decide (((at_ L e0 (k : Int)).k) = 5)) := e283.2.1
       refine wp_cond_true (s287_65.trans (by rw [y286])) ?_
       have habc := hx.abc (by omega)
       have ea := at_semT (L := L) (v := hB x) (k := k) habc.1.1 habc.1.2; have eb := at_semT (L := L) (v := hB x) (k := k) habc.2.1.1 habc.2.1.2; have ec := at_semT (L := L) (v := hB x) (k := k) habc.2.2.1 habc.2.2.2
       have s288_6 := ((q283 6 rfl).trans s229_6)
       have p290 := fr4 q59 q61 q120 q171
       have s289_8 := ((q283 8 rfl).trans ((q224 8 rfl).trans ((p290 8 rfl).trans s57_8)))
       have f32_291 := (own_keep f32_233 t283)
       refine rg mixed 154 [.eq (.slice A1 k c1), .eq (.pointer (some ⟨b44, 1, none⟩)), .eq (.int .i64 ((at_ L e0 (k : Int)).a)), .eq (.pointer (some ⟨(rowB A1), Int.toNat ((at_ L e0 (k : Int)).a) * 1, none⟩)), .eq (.bool (at_ (semT L (hB x) k) false ((at_ L e0 (k : Int)).a))), .eq (.slice A1 k c1), .eq (.pointer (some ⟨b44, 2, none⟩)), .eq (.int .i64 ((at_ L e0 (k : Int)).b)), .eq (.pointer (some ⟨(rowB A1), Int.toNat ((at_ L e0 (k : Int)).b) * 1, none⟩)), .eq (.bool (at_ (semT L (hB x) k) false ((at_ L e0 (k : Int)).b))), .eq (.bool (!((at_ (semT L (hB x) k) false ((at_ L e0 (k : Int)).a)) == (at_ (semT L (hB x) k) false ((at_ L e0 (k : Int)).b))))), .eq (.bool (!((at_ (semT L (hB x) k) false ((at_ L e0 (k : Int)).a)) == (at_ (semT L (hB x) k) false ((at_ L e0 (k : Int)).b)))))] [[(6, none)], [(8, none)], [(68, some 1)], [(67, some 0), (69, some 2)], [(70, some 3)], [(6, none)], [(8, none)], [(73, some 6)], [(72, some 5), (74, some 7)], [(75, some 8)], [(71, some 4), (76, some 9)], [(77, some 10)]] d283 z283 (by kernel_rfl) ⟨Ov rfl rfl fun _ _ T ⟨k6, _⟩ => ex_move (k6.trans s288_6),
        Ov rfl rfl fun _ _ T ⟨k8, _⟩ => ex_fieldAddr (k8.trans s289_8) (fa_139_1 _ _ _),
        Ov rfl rfl fun _ _ T ⟨k68, _⟩ => ex_load k68 (Try.isAgg3 _) (cell_of (Ext.keep T.ext t52.here_284) rfl),
        Ov rfl rfl fun _ _ T ⟨k67, k69, _⟩ => ex_ixa Try.underlying52 (Try.sizeOf4 _) k67 (own_eqA f32_291 (by omega)) k69 (by omega) (by omega),
        Ov rfl rfl fun _ _ T ⟨k70, _⟩ => ex_load k70 (Try.isAgg4 _) (own_at (own_keep f32_291 T.ext) (own_eqA f32_291 (by omega)) bov1_1 (at_some' (d := false) ((semT_len _ _ _).symm) (by omega) (by omega)) 0 rfl),
        Ov rfl rfl fun _ _ T ⟨k6, _⟩ => ex_move (k6.trans s288_6),
        Ov rfl rfl fun _ _ T ⟨k8, _⟩ => ex_fieldAddr (k8.trans s289_8) (fa_139_2 _ _ _),
        Ov rfl rfl fun _ _ T ⟨k73, _⟩ => ex_load k73 (Try.isAgg3 _) (cell_of (Ext.keep T.ext t52.here_284) rfl),
        Ov rfl rfl fun _ _ T ⟨k72, k74, _⟩ => ex_ixa Try.underlying52 (Try.sizeOf4 _) k72 (own_eqA f32_291 (by omega)) k74 (by omega) (by omega),
        Ov rfl rfl fun _ _ T ⟨k75, _⟩ => ex_load k75 (Try.isAgg4 _) (own_at (own_keep f32_291 T.ext) (own_eqA f32_291 (by omega)) bov1_1 (at_some' (d := false) ((semT_len _ _ _).symm) (by omega) (by omega)) 0 rfl),
        Ov rfl rfl fun _ _ T ⟨k71, k76, _⟩ => ex_neqb Try.underlying4 k71 k76,
        Ov rfl rfl fun _ _ T ⟨k77, _⟩ => ex_assign k77,
        trivial⟩ ?_
       intro a292 w292 d292 z292 t292 e292 q292
       repeat (with_reducible refine block_norm ?_)
       refine hK55 _ _ ?_
       have key : ∀ pa pb pc : Bool, (!(pa == pb)) = (opK (5 - 3) pa pb) := by decide
       have hval : (!((at_ (semT L (hB x) k) false ((at_ L e0 (k : Int)).a)) == (at_ (semT L (hB x) k) false ((at_ L e0 (k : Int)).b)))) = sem L (k : Int) (hB x) := by
        have hkk : (at_ L e0 (k : Int)).k = 5 := by omega
        rw [sem_kj (i := (k : Int)) hR (by omega) (by omega) _ (by omega) (by omega), ← ea, ← eb, hkk]
        first | done | exact key (at_ (semT L (hB x) k) false ((at_ L e0 (k : Int)).a)) (at_ (semT L (hB x) k) false ((at_ L e0 (k : Int)).b)) (at_ (semT L (hB x) k) false ((at_ L e0 (k : Int)).c))
       refine seq_begin ?_
       refine sp z292 rfl rfl (ex_move ((q292 6 rfl).trans s288_6)) ?_; intro a293 u293 z293
       refine sp z293 rfl rfl (ex_move ((u293.past 9 rfl).trans e292.2.2.2.2.2.2.2.2.2.2.2.1)) ?_; intro a294 u294 z294
       refine snew (mk := fun bQ => .slice (some ⟨bQ, 0, none⟩) 1 1) z294 rfl rfl (exl_buildSlice (cons_parts (u294.here _ rfl) nil_parts) (bs_52_1_0B (!((at_ (semT L (hB x) k) false ((at_ L e0 (k : Int)).a)) == (at_ (semT L (hB x) k) false ((at_ L e0 (k : Int)).b)))) _)) ?_; intro b295 w295 a295 t295 g295 hb295 u295 z295
       have hb1_297 := (Ext.keep t292 (Ext.keep t283 hb1_231))
       have n296_b1_b295 := ne_lt (lt_of hb1_297) g295
       have ho6_299 := (own_keep (own_keep ho6_232 t283) t292)
       have no298 := no_new ho6_299 g295
       have f32_301 := (own_keep f32_291 t292)
       have no300 := no_new f32_301 g295
       have t52.here_303 := (Ext.keep t292 t52.here_284)
       have n302_b44_b295 := ne_lt (lt_of t52.here_303) g295
       have x305 := (Touch.trans x285 (Ext.touch t292))
       have yb295_304 := Nat.le_trans (Touch.size x305) g295
       have f32_307 := (own_keep f32_301 t295)
       refine sapp (m := 1) (news := [.bool (!((at_ (semT L (hB x) k) false ((at_ L e0 (k : Int)).a)) == (at_ (semT L (hB x) k) false ((at_ L e0 (k : Int)).b))))]) z295 rfl el_52 f32_307 ((u295.past 149 rfl).trans ((u294.past 149 rfl).trans (u293.here _ rfl))) (u295.here _ rfl) rfl (news_of hb295) rfl (by omega) (by omega) ?_; intro A306 cp306 w306 a306 t306 u306 z306
       have x309 := (Touch.trans x305 (Ext.touch t295))
       have hb1_311 := (Ext.keep t295 hb1_297)
       have no310 := App.no t306 (lt_of hb1_311) (fun (jQ : Nat) hQ (eQ : jQ = b1) => (fun (eQ : some b1 = _) => hno_b1 _ eQ.symm rfl) (by rw [← eQ]; exact hQ.symm))
       have ho6_313 := (own_keep ho6_299 t295)
       have no312 := App.nor t306 (fun jQ hQ => own_lt ho6_313 hQ) hnor_0
       have t52.here_315 := (Ext.keep t295 t52.here_303)
       have no314 := App.no t306 (lt_of t52.here_315) (fun (jQ : Nat) hQ (eQ : jQ = b44) => (fun (eQ : some b44 = _) => no49 _ eQ.symm rfl) (by rw [← eQ]; exact hQ.symm))
       have no316 := App.no t306 (lt_of hb295) (fun (jQ : Nat) hQ (eQ : jQ = b295) => (fun (eQ : some b295 = _) => no300 _ eQ.symm rfl) (by rw [← eQ]; exact hQ.symm))
       have no317 := App.base t306 (Touch.size x309) hbase
       refine sp z306 rfl rfl (ex_assign (u306.here _ rfl)) ?_; intro a318 u318 z318
       have d319 := (u318.defs.trans (u306.defs.trans (u295.defs.trans (u294.defs.trans (u293.defs.trans d292)))))
       refine seq_end ?_
       repeat (with_reducible refine block_norm ?_)
       refine hK37 _ _ ?_
       have p321 := fr4 u294.past u295.past u306.past u318.past
       have s320_7 := ((p321 7 rfl).trans ((u293.past 7 rfl).trans ((q292 7 rfl).trans ((q283 7 rfl).trans s230_7))))
       refine rg mixed 154 [.eq (.int .i64 (k : Int)), .eq (.int .i64 ((k : Int) + 1)), .eq (.int .i64 ((k : Int) + 1))] [[(7, none)], [(17, some 0)], [(18, some 1)]] d319 z318 (by kernel_rfl) ⟨Ov rfl rfl fun _ _ T ⟨k7, _⟩ => ex_move (k7.trans s320_7), Ov rfl rfl fun _ _ T ⟨k17, _⟩ => ex_add64 k17 rfl (by omega), Ov rfl rfl fun _ _ T ⟨k18, _⟩ => ex_assign k18, trivial⟩ ?_
       intro a322 w322 d322 z322 t322 e322 q322
       repeat (with_reducible refine block_norm ?_)
       have s323_0 := ((q322 0 rfl).trans ((p321 0 rfl).trans ((u293.past 0 rfl).trans ((q292 0 rfl).trans ((q283 0 rfl).trans s225_0)))))
       have s324_3 := ((q322 3 rfl).trans ((p321 3 rfl).trans ((u293.past 3 rfl).trans ((q292 3 rfl).trans ((q283 3 rfl).trans s226_3)))))
       have s325_4 := ((q322 4 rfl).trans ((p321 4 rfl).trans ((u293.past 4 rfl).trans ((q292 4 rfl).trans ((q283 4 rfl).trans s227_4)))))
       have s326_5 := ((q322 5 rfl).trans ((p321 5 rfl).trans ((u293.past 5 rfl).trans ((q292 5 rfl).trans ((q283 5 rfl).trans s228_5)))))
       have s327_6 : a318.eval (.tmp 6) = .slice A306 (k + 1) cp306 := (u318.here _ rfl)
       have s328_6 := ((q322 6 rfl).trans s327_6)
       have s329_7 : a322.eval (.tmp 7) = .int .i64 ((k : Int) + 1) := e322.2.2.1
       have x330 := (Touch.trans (Touch.via x309 t306.touch (fun jQ hQ => Or.inr (hbase jQ hQ.symm))) (Ext.touch t322))
       have hb1_331 := (Ext.keep t322 (Touch.keep t306.touch hb1_311 (fun (eQ : some b1 = _) => hno_b1 _ eQ.symm rfl)))
       have ho6_332 := (own_keep (own_touch ho6_313 t306.touch (fun jQ hQ eQ => (nor_symm hnor_0) jQ hQ eQ.symm)) t322)
       have t306.own_333 := (own_keep t306.own t322)
       refine then_norm ?_
       refine ⟨_, ⟨k + 1, A306, cp306, rfl, d322, z322, s323_0, s324_3, s325_4, s326_5, s328_6, (s329_7.trans (by first | rfl | (congr 1; omega) | (simp; omega) | simp)), x330, hb1_331, ho6_332, (by rw [semT_succ, ← flat_push, ← hval]; exact t306.own_333), by omega, no317, no310, no312⟩, ?_⟩; (show _ < _); rw [hmu15]; exact by omega
      ·have y286 := decide_eq_false c286
       have s334_65 : a283.eval (.tmp 65) = .bool (decide (((at_ L e0 (k : Int)).k) = 5)) := e283.2.1
       refine wp_cond_false (s334_65.trans (by rw [y286])) ?_
       have s335_24 := ((q283 24 rfl).trans s282_24)
       refine rgs mixed 154 [.eq (.bool (decide (((at_ L e0 (k : Int)).k) = 6))), .eq (.bool (decide (((at_ L e0 (k : Int)).k) = 6)))] [[(24, none)], [(79, some 0)]] d283 z283 (by kernel_rfl) ⟨Ov rfl rfl fun _ _ T ⟨k24, _⟩ => ex_eql (k24.trans s335_24) rfl, Ov rfl rfl fun _ _ T ⟨k79, _⟩ => ex_assign k79, trivial⟩ ?_
       intro a336 w336 d336 z336 t336 e336 q336
       by_cases c337 : ((at_ L e0 (k : Int)).k) = 6
       ·have y337 := decide_eq_true c337
        have s338_78 : a336.eval (.tmp 78) = .bool (decide (((at_ L e0 (k : Int)).k) = 6)) := e336.2.1
        refine wp_cond_true (s338_78.trans (by rw [y337])) ?_
        have habc := hx.abc (by omega)
        have ea := at_semT (L := L) (v := hB x) (k := k) habc.1.1 habc.1.2; have eb := at_semT (L := L) (v := hB x) (k := k) habc.2.1.1 habc.2.1.2; have ec := at_semT (L := L) (v := hB x) (k := k) habc.2.2.1 habc.2.2.2
        have s339_6 := ((q336 6 rfl).trans ((q283 6 rfl).trans s229_6))
        have p341 := fr4 q59 q61 q120 q171
        have s340_8 := ((q336 8 rfl).trans ((q283 8 rfl).trans ((q224 8 rfl).trans ((p341 8 rfl).trans s57_8))))
        have t52.here_342 := (Ext.keep t336 t52.here_284)
        have f32_343 := (own_keep (own_keep f32_233 t283) t336)
        refine rg mixed 154 [.eq (.slice A1 k c1), .eq (.pointer (some ⟨b44, 1, none⟩)), .eq (.int .i64 ((at_ L e0 (k : Int)).a)), .eq (.pointer (some ⟨(rowB A1), Int.toNat ((at_ L e0 (k : Int)).a) * 1, none⟩)), .eq (.bool (at_ (semT L (hB x) k) false ((at_ L e0 (k : Int)).a))), .eq (.bool (at_ (semT L (hB x) k) false ((at_ L e0 (k : Int)).a))), .eq (if (at_ (semT L (hB x) k) false ((at_ L e0 (k : Int)).a)) = true then .slice A1 k c1 else undef), .eq (if (at_ (semT L (hB x) k) false ((at_ L e0 (k : Int)).a)) = true then .pointer (some ⟨b44, 2, none⟩) else undef), .eq (if (at_ (semT L (hB x) k) false ((at_ L e0 (k : Int)).a)) = true then .int .i64 ((at_ L e0 (k : Int)).b) else undef), .eq (if (at_ (semT L (hB x) k) false ((at_ L e0 (k : Int)).a)) = true then .pointer (some ⟨(rowB A1), Int.toNat ((at_ L e0 (k : Int)).b) * 1, none⟩) else undef), .eq (if (at_ (semT L (hB x) k) false ((at_ L e0 (k : Int)).a)) = true then .bool (at_ (semT L (hB x) k) false ((at_ L e0 (k : Int)).b)) else undef), .eq (if (at_ (semT L (hB x) k) false ((at_ L e0 (k : Int)).a)) = true then .bool (!(at_ (semT L (hB x) k) false ((at_ L e0 (k : Int)).b))) else undef), .eq (.bool ((at_ (semT L (hB x) k) false ((at_ L e0 (k : Int)).a)) && (!(at_ (semT L (hB x) k) false ((at_ L e0 (k : Int)).b))))), .eq (.bool ((at_ (semT L (hB x) k) false ((at_ L e0 (k : Int)).a)) && (!(at_ (semT L (hB x) k) false ((at_ L e0 (k : Int)).b)))))] [[(6, none)], [(8, none)], [(81, some 1)], [(80, some 0), (82, some 2)], [(83, some 3)], [(84, some 4)], [(6, none), (85, some 5)], [(8, none), (85, some 5)], [(87, some 7), (85, some 5)], [(86, some 6), (88, some 8), (85, some 5)], [(89, some 9), (85, some 5)], [(90, some 10), (85, some 5)], [(85, some 5), (91, some 11)], [(92, some 12)]] d336 z336 (by kernel_rfl) ⟨Ov rfl rfl fun _ _ T ⟨k6, _⟩ => ex_move (k6.trans s339_6),
         Ov rfl rfl fun _ _ T ⟨k8, _⟩ => ex_fieldAddr (k8.trans s340_8) (fa_139_1 _ _ _),
         Ov rfl rfl fun _ _ T ⟨k81, _⟩ => ex_load k81 (Try.isAgg3 _) (cell_of (Ext.keep T.ext t52.here_342) rfl),
         Ov rfl rfl fun _ _ T ⟨k80, k82, _⟩ => ex_ixa Try.underlying52 (Try.sizeOf4 _) k80 (own_eqA f32_343 (by omega)) k82 (by omega) (by omega),
         Ov rfl rfl fun _ _ T ⟨k83, _⟩ => ex_load k83 (Try.isAgg4 _) (own_at (own_keep f32_343 T.ext) (own_eqA f32_343 (by omega)) bov1_1 (at_some' (d := false) ((semT_len _ _ _).symm) (by omega) (by omega)) 0 rfl),
         Ov rfl rfl fun _ _ T ⟨k84, _⟩ => ex_move k84,
         Og rfl rfl rfl fun _ _ T ⟨k6, k85, _⟩ => ⟨k85, fun hcQ => ex_move (k6.trans s339_6)⟩,
         Og rfl rfl rfl fun _ _ T ⟨k8, k85, _⟩ => ⟨k85, fun hcQ => ex_fieldAddr (k8.trans s340_8) (fa_139_2 _ _ _)⟩,
         Og rfl rfl rfl fun _ _ T ⟨k87, k85, _⟩ => ⟨k85, fun hcQ => ex_load (k87.trans (if_pos hcQ)) (Try.isAgg3 _) (cell_of (Ext.keep T.ext t52.here_342) rfl)⟩,
         Og rfl rfl rfl fun _ _ T ⟨k86, k88, k85, _⟩ => ⟨k85, fun hcQ => by have hdQ := hcQ; (try simp only [Bool.and_eq_true, Bool.or_eq_false_iff, Bool.not_eq_true', Bool.not_eq_false', beq_iff_eq, decide_eq_true_eq, decide_eq_false_iff_not] at hdQ); exact ex_ixa Try.underlying52 (Try.sizeOf4 _) (k86.trans (if_pos hcQ)) (own_eqA f32_343 (by omega)) (k88.trans (if_pos hcQ)) (by omega) (by omega)⟩,
         Og rfl rfl rfl fun _ _ T ⟨k89, k85, _⟩ => ⟨k85, fun hcQ => by have hdQ := hcQ; (try simp only [Bool.and_eq_true, Bool.or_eq_false_iff, Bool.not_eq_true', Bool.not_eq_false', beq_iff_eq, decide_eq_true_eq, decide_eq_false_iff_not] at hdQ); exact ex_load (k89.trans (if_pos hcQ)) (Try.isAgg4 _) (own_at (own_keep f32_343 T.ext) (own_eqA f32_343 (by omega)) bov1_1 (at_some' (d := false) ((semT_len _ _ _).symm) (by omega) (by omega)) 0 rfl)⟩,
         Og rfl rfl rfl fun _ _ T ⟨k90, k85, _⟩ => ⟨k85, fun hcQ => ex_not (k90.trans (if_pos hcQ))⟩,
         Ov rfl rfl fun _ _ T ⟨k85, k91, _⟩ => ex_pick_and k85 k91 rfl,
         Ov rfl rfl fun _ _ T ⟨k92, _⟩ => ex_assign k92,
         trivial⟩ ?_
        intro a344 w344 d344 z344 t344 e344 q344
        repeat (with_reducible refine block_norm ?_)
        refine hK55 _ _ ?_
        have key : ∀ pa pb pc : Bool, (pa && (!pb)) = (opK (6 - 3) pa pb) := by decide
        have hval : ((at_ (semT L (hB x) k) false ((at_ L e0 (k : Int)).a)) && (!(at_ (semT L (hB x) k) false ((at_ L e0 (k : Int)).b)))) = sem L (k : Int) (hB x) := by
         have hkk : (at_ L e0 (k : Int)).k = 6 := by omega
         rw [sem_kj (i := (k : Int)) hR (by omega) (by omega) _ (by omega) (by omega), ← ea, ← eb, hkk]
         first | done | exact key (at_ (semT L (hB x) k) false ((at_ L e0 (k : Int)).a)) (at_ (semT L (hB x) k) false ((at_ L e0 (k : Int)).b)) (at_ (semT L (hB x) k) false ((at_ L e0 (k : Int)).c))
        refine seq_begin ?_
        refine sp z344 rfl rfl (ex_move ((q344 6 rfl).trans s339_6)) ?_; intro a345 u345 z345
        refine sp z345 rfl rfl (ex_move ((u345.past 9 rfl).trans e344.2.2.2.2.2.2.2.2.2.2.2.2.2.1)) ?_; intro a346 u346 z346
        refine snew (mk := fun bQ => .slice (some ⟨bQ, 0, none⟩) 1 1) z346 rfl rfl (exl_buildSlice (cons_parts (u346.here _ rfl) nil_parts) (bs_52_1_0B ((at_ (semT L (hB x) k) false ((at_ L e0 (k : Int)).a)) && (!(at_ (semT L (hB x) k) false ((at_ L e0 (k : Int)).b)))) _)) ?_; intro b347 w347 a347 t347 g347 hb347 u347 z347
        have hb1_349 := (Ext.keep t344 (Ext.keep t336 (Ext.keep t283 hb1_231)))
        have n348_b1_b347 := ne_lt (lt_of hb1_349) g347
        have ho6_351 := (own_keep (own_keep (own_keep ho6_232 t283) t336) t344)
        have no350 := no_new ho6_351 g347
        have f32_353 := (own_keep f32_343 t344)
        have no352 := no_new f32_353 g347
        have t52.here_355 := (Ext.keep t344 t52.here_342)
        have n354_b44_b347 := ne_lt (lt_of t52.here_355) g347
        have x357 := (Touch.trans (Touch.trans x285 (Ext.touch t336)) (Ext.touch t344))
        have yb347_356 := Nat.le_trans (Touch.size x357) g347
        have f32_359 := (own_keep f32_353 t347)
        refine sapp (m := 1) (news := [.bool ((at_ (semT L (hB x) k) false ((at_ L e0 (k : Int)).a)) && (!(at_ (semT L (hB x) k) false ((at_ L e0 (k : Int)).b))))]) z347 rfl el_52 f32_359 ((u347.past 149 rfl).trans ((u346.past 149 rfl).trans (u345.here _ rfl))) (u347.here _ rfl) rfl (news_of hb347) rfl (by omega) (by omega) ?_; intro A358 cp358 w358 a358 t358 u358 z358
        have x361 := (Touch.trans x357 (Ext.touch t347))
        have hb1_363 := (Ext.keep t347 hb1_349)
        have no362 := App.no t358 (lt_of hb1_363) (fun (jQ : Nat) hQ (eQ : jQ = b1) => (fun (eQ : some b1 = _) => hno_b1 _ eQ.symm rfl) (by rw [← eQ]; exact hQ.symm))
        have ho6_365 := (own_keep ho6_351 t347)
        have no364 := App.nor t358 (fun jQ hQ => own_lt ho6_365 hQ) hnor_0
        have t52.here_367 := (Ext.keep t347 t52.here_355)
        have no366 := App.no t358 (lt_of t52.here_367) (fun (jQ : Nat) hQ (eQ : jQ = b44) => (fun (eQ : some b44 = _) => no49 _ eQ.symm rfl) (by rw [← eQ]; exact hQ.symm))
        have no368 := App.no t358 (lt_of hb347) (fun (jQ : Nat) hQ (eQ : jQ = b347) => (fun (eQ : some b347 = _) => no352 _ eQ.symm rfl) (by rw [← eQ]; exact hQ.symm))
        have no369 := App.base t358 (Touch.size x361) hbase
        refine sp z358 rfl rfl (ex_assign (u358.here _ rfl)) ?_; intro a370 u370 z370
        have d371 := (u370.defs.trans (u358.defs.trans (u347.defs.trans (u346.defs.trans (u345.defs.trans d344)))))
        refine seq_end ?_
        repeat (with_reducible refine block_norm ?_)
        refine hK37 _ _ ?_
        have p373 := fr4 u345.past u346.past u347.past u358.past
        have s372_7 := ((u370.past 7 rfl).trans ((p373 7 rfl).trans ((q344 7 rfl).trans ((q336 7 rfl).trans ((q283 7 rfl).trans s230_7)))))
        refine rg mixed 154 [.eq (.int .i64 (k : Int)), .eq (.int .i64 ((k : Int) + 1)), .eq (.int .i64 ((k : Int) + 1))] [[(7, none)], [(17, some 0)], [(18, some 1)]] d371 z370 (by kernel_rfl) ⟨Ov rfl rfl fun _ _ T ⟨k7, _⟩ => ex_move (k7.trans s372_7), Ov rfl rfl fun _ _ T ⟨k17, _⟩ => ex_add64 k17 rfl (by omega), Ov rfl rfl fun _ _ T ⟨k18, _⟩ => ex_assign k18, trivial⟩ ?_
        intro a374 w374 d374 z374 t374 e374 q374
        repeat (with_reducible refine block_norm ?_)
        have s375_0 := ((q374 0 rfl).trans ((u370.past 0 rfl).trans ((p373 0 rfl).trans ((q344 0 rfl).trans ((q336 0 rfl).trans ((q283 0 rfl).trans s225_0))))))
        have s376_3 := ((q374 3 rfl).trans ((u370.past 3 rfl).trans ((p373 3 rfl).trans ((q344 3 rfl).trans ((q336 3 rfl).trans ((q283 3 rfl).trans s226_3))))))
        have s377_4 := ((q374 4 rfl).trans ((u370.past 4 rfl).trans ((p373 4 rfl).trans ((q344 4 rfl).trans ((q336 4 rfl).trans ((q283 4 rfl).trans s227_4))))))
        have s378_5 := ((q374 5 rfl).trans ((u370.past 5 rfl).trans ((p373 5 rfl).trans ((q344 5 rfl).trans ((q336 5 rfl).trans ((q283 5 rfl).trans s228_5))))))
        have s379_6 : a370.eval (.tmp 6) = .slice A358 (k + 1) cp358 := (u370.here _ rfl)
        have s380_6 := ((q374 6 rfl).trans s379_6)
        have s381_7 : a374.eval (.tmp 7) = .int .i64 ((k : Int) + 1) := e374.2.2.1
        have x382 := (Touch.trans (Touch.via x361 t358.touch (fun jQ hQ => Or.inr (hbase jQ hQ.symm))) (Ext.touch t374))
        have hb1_383 := (Ext.keep t374 (Touch.keep t358.touch hb1_363 (fun (eQ : some b1 = _) => hno_b1 _ eQ.symm rfl)))
        have ho6_384 := (own_keep (own_touch ho6_365 t358.touch (fun jQ hQ eQ => (nor_symm hnor_0) jQ hQ eQ.symm)) t374)
        have t358.own_385 := (own_keep t358.own t374)
        refine then_norm ?_
        refine ⟨_, ⟨k + 1, A358, cp358, rfl, d374, z374, s375_0, s376_3, s377_4, s378_5, s380_6, (s381_7.trans (by first | rfl | (congr 1; omega) | (simp; omega) | simp)), x382, hb1_383, ho6_384, (by rw [semT_succ, ← flat_push, ← hval]; exact t358.own_385), by omega, no369, no362, no364⟩, ?_⟩; (show _ < _); rw [hmu15]; exact by omega
       ·have y337 := decide_eq_false c337
        have s386_78 : a336.eval (.tmp 78) = .bool (decide (((at_ L e0 (k : Int)).k) = 6)) := e336.2.1
        refine wp_cond_false (s386_78.trans (by rw [y337])) ?_
        have s387_24 := ((q336 24 rfl).trans s335_24)
        refine rgs mixed 154 [.eq (.bool (decide (((at_ L e0 (k : Int)).k) = 7))), .eq (.bool (decide (((at_ L e0 (k : Int)).k) = 7)))] [[(24, none)], [(94, some 0)]] d336 z336 (by kernel_rfl) ⟨Ov rfl rfl fun _ _ T ⟨k24, _⟩ => ex_eql (k24.trans s387_24) rfl, Ov rfl rfl fun _ _ T ⟨k94, _⟩ => ex_assign k94, trivial⟩ ?_
        intro a388 w388 d388 z388 t388 e388 q388
        have s389_0 := ((q388 0 rfl).trans ((q336 0 rfl).trans ((q283 0 rfl).trans s225_0)))
        have s390_3 := ((q388 3 rfl).trans ((q336 3 rfl).trans ((q283 3 rfl).trans s226_3)))
        have s391_4 := ((q388 4 rfl).trans ((q336 4 rfl).trans ((q283 4 rfl).trans s227_4)))
        have s392_5 := ((q388 5 rfl).trans ((q336 5 rfl).trans ((q283 5 rfl).trans s228_5)))
        have s393_6 := ((q388 6 rfl).trans ((q336 6 rfl).trans ((q283 6 rfl).trans s229_6)))
        have s394_7 := ((q388 7 rfl).trans ((q336 7 rfl).trans ((q283 7 rfl).trans s230_7)))
        have hb1_395 := (Ext.keep t388 (Ext.keep t336 (Ext.keep t283 hb1_231)))
        have ho6_396 := (own_keep (own_keep (own_keep ho6_232 t283) t336) t388)
        have f32_397 := (own_keep (own_keep (own_keep f32_233 t283) t336) t388)
        have x398 := (Touch.trans (Touch.trans x285 (Ext.touch t336)) (Ext.touch t388))
        by_cases c399 : ((at_ L e0 (k : Int)).k) = 7
        ·have y399 := decide_eq_true c399
         have s400_93 : a388.eval (.tmp 93) = .bool (decide (((at_ L e0 (k : Int)).k) = 7)) := e388.2.1
         refine wp_cond_true (s400_93.trans (by rw [y399])) ?_
         have habc := hx.abc (by omega)
         have ea := at_semT (L := L) (v := hB x) (k := k) habc.1.1 habc.1.2; have eb := at_semT (L := L) (v := hB x) (k := k) habc.2.1.1 habc.2.1.2; have ec := at_semT (L := L) (v := hB x) (k := k) habc.2.2.1 habc.2.2.2
         have p402 := fr4 q59 q61 q120 q171
         have p403 := fr4 q224 q283 q336 q388
         have s401_8 := ((p403 8 rfl).trans ((p402 8 rfl).trans s57_8))
         have t52.here_404 := (Ext.keep t388 (Ext.keep t336 t52.here_284))
         refine rg mixed 154 [.eq (.slice A1 k c1), .eq (.pointer (some ⟨b44, 1, none⟩)), .eq (.int .i64 ((at_ L e0 (k : Int)).a)), .eq (.pointer (some ⟨(rowB A1), Int.toNat ((at_ L e0 (k : Int)).a) * 1, none⟩)), .eq (.bool (at_ (semT L (hB x) k) false ((at_ L e0 (k : Int)).a))), .eq (.bool (!(at_ (semT L (hB x) k) false ((at_ L e0 (k : Int)).a)))), .eq (.bool (!(at_ (semT L (hB x) k) false ((at_ L e0 (k : Int)).a))))] [[(6, none)], [(8, none)], [(96, some 1)], [(95, some 0), (97, some 2)], [(98, some 3)], [(99, some 4)], [(100, some 5)]] d388 z388 (by kernel_rfl) ⟨Ov rfl rfl fun _ _ T ⟨k6, _⟩ => ex_move (k6.trans s393_6),
          Ov rfl rfl fun _ _ T ⟨k8, _⟩ => ex_fieldAddr (k8.trans s401_8) (fa_139_1 _ _ _),
          Ov rfl rfl fun _ _ T ⟨k96, _⟩ => ex_load k96 (Try.isAgg3 _) (cell_of (Ext.keep T.ext t52.here_404) rfl),
          Ov rfl rfl fun _ _ T ⟨k95, k97, _⟩ => ex_ixa Try.underlying52 (Try.sizeOf4 _) k95 (own_eqA f32_397 (by omega)) k97 (by omega) (by omega),
          Ov rfl rfl fun _ _ T ⟨k98, _⟩ => ex_load k98 (Try.isAgg4 _) (own_at (own_keep f32_397 T.ext) (own_eqA f32_397 (by omega)) bov1_1 (at_some' (d := false) ((semT_len _ _ _).symm) (by omega) (by omega)) 0 rfl),
          Ov rfl rfl fun _ _ T ⟨k99, _⟩ => ex_not k99,
          Ov rfl rfl fun _ _ T ⟨k100, _⟩ => ex_assign k100,
          trivial⟩ ?_
         intro a405 w405 d405 z405 t405 e405 q405
         repeat (with_reducible refine block_norm ?_)
         refine hK55 _ _ ?_
         have key : ∀ pa pb pc : Bool, (!pa) = (!pa) := by decide
         have hval : (!(at_ (semT L (hB x) k) false ((at_ L e0 (k : Int)).a))) = sem L (k : Int) (hB x) := by
          have hkk : (at_ L e0 (k : Int)).k = 7 := by omega
          rw [sem_k7 (i := (k : Int)) hR (by omega) (by omega) _ (by omega), ← ea]
          first | done | exact key (at_ (semT L (hB x) k) false ((at_ L e0 (k : Int)).a)) (at_ (semT L (hB x) k) false ((at_ L e0 (k : Int)).b)) (at_ (semT L (hB x) k) false ((at_ L e0 (k : Int)).c))
         refine seq_begin ?_
         refine sp z405 rfl rfl (ex_move ((q405 6 rfl).trans s393_6)) ?_; intro a406 u406 z406
         refine sp z406 rfl rfl (ex_move ((u406.past 9 rfl).trans e405.2.2.2.2.2.2.1)) ?_; intro a407 u407 z407
         refine snew (mk := fun bQ => .slice (some ⟨bQ, 0, none⟩) 1 1) z407 rfl rfl (exl_buildSlice (cons_parts (u407.here _ rfl) nil_parts) (bs_52_1_0B (!(at_ (semT L (hB x) k) false ((at_ L e0 (k : Int)).a))) _)) ?_; intro b408 w408 a408 t408 g408 hb408 u408 z408
         have hb1_410 := (Ext.keep t405 hb1_395)
         have n409_b1_b408 := ne_lt (lt_of hb1_410) g408
         have ho6_412 := (own_keep ho6_396 t405)
         have no411 := no_new ho6_412 g408
         have f32_414 := (own_keep f32_397 t405)
         have no413 := no_new f32_414 g408
         have t52.here_416 := (Ext.keep t405 t52.here_404)
         have n415_b44_b408 := ne_lt (lt_of t52.here_416) g408
         have x418 := (Touch.trans x398 (Ext.touch t405))
         have yb408_417 := Nat.le_trans (Touch.size x418) g408
         have f32_420 := (own_keep f32_414 t408)
         refine sapp (m := 1) (news := [.bool (!(at_ (semT L (hB x) k) false ((at_ L e0 (k : Int)).a)))]) z408 rfl el_52 f32_420 ((u408.past 149 rfl).trans ((u407.past 149 rfl).trans (u406.here _ rfl))) (u408.here _ rfl) rfl (news_of hb408) rfl (by omega) (by omega) ?_; intro A419 cp419 w419 a419 t419 u419 z419
         have x422 := (Touch.trans x418 (Ext.touch t408))
         have hb1_424 := (Ext.keep t408 hb1_410)
         have no423 := App.no t419 (lt_of hb1_424) (fun (jQ : Nat) hQ (eQ : jQ = b1) => (fun (eQ : some b1 = _) => hno_b1 _ eQ.symm rfl) (by rw [← eQ]; exact hQ.symm))
         have ho6_426 := (own_keep ho6_412 t408)
         have no425 := App.nor t419 (fun jQ hQ => own_lt ho6_426 hQ) hnor_0
         have t52.here_428 := (Ext.keep t408 t52.here_416)
         have no427 := App.no t419 (lt_of t52.here_428) (fun (jQ : Nat) hQ (eQ : jQ = b44) => (fun (eQ : some b44 = _) => no49 _ eQ.symm rfl) (by rw [← eQ]; exact hQ.symm))
         have no429 := App.no t419 (lt_of hb408) (fun (jQ : Nat) hQ (eQ : jQ = b408) => (fun (eQ : some b408 = _) => no413 _ eQ.symm rfl) (by rw [← eQ]; exact hQ.symm))
         have no430 := App.base t419 (Touch.size x422) hbase
         refine sp z419 rfl rfl (ex_assign (u419.here _ rfl)) ?_; intro a431 u431 z431
         have d432 := (u431.defs.trans (u419.defs.trans (u408.defs.trans (u407.defs.trans (u406.defs.trans d405)))))
         refine seq_end ?_
         repeat (with_reducible refine block_norm ?_)
         refine hK37 _ _ ?_
         have p434 := fr4 q405 u406.past u407.past u408.past
         have s433_7 := ((u431.past 7 rfl).trans ((u419.past 7 rfl).trans ((p434 7 rfl).trans s394_7)))
         refine rg mixed 154 [.eq (.int .i64 (k : Int)), .eq (.int .i64 ((k : Int) + 1)), .eq (.int .i64 ((k : Int) + 1))] [[(7, none)], [(17, some 0)], [(18, some 1)]] d432 z431 (by kernel_rfl) ⟨Ov rfl rfl fun _ _ T ⟨k7, _⟩ => ex_move (k7.trans s433_7), Ov rfl rfl fun _ _ T ⟨k17, _⟩ => ex_add64 k17 rfl (by omega), Ov rfl rfl fun _ _ T ⟨k18, _⟩ => ex_assign k18, trivial⟩ ?_
         intro a435 w435 d435 z435 t435 e435 q435
         repeat (with_reducible refine block_norm ?_)
         have s436_0 := ((q435 0 rfl).trans ((u431.past 0 rfl).trans ((u419.past 0 rfl).trans ((p434 0 rfl).trans s389_0))))
         have s437_3 := ((q435 3 rfl).trans ((u431.past 3 rfl).trans ((u419.past 3 rfl).trans ((p434 3 rfl).trans s390_3))))
         have s438_4 := ((q435 4 rfl).trans ((u431.past 4 rfl).trans ((u419.past 4 rfl).trans ((p434 4 rfl).trans s391_4))))
         have s439_5 := ((q435 5 rfl).trans ((u431.past 5 rfl).trans ((u419.past 5 rfl).trans ((p434 5 rfl).trans s392_5))))
         have s440_6 : a431.eval (.tmp 6) = .slice A419 (k + 1) cp419 := (u431.here _ rfl)
         have s441_6 := ((q435 6 rfl).trans s440_6)
         have s442_7 : a435.eval (.tmp 7) = .int .i64 ((k : Int) + 1) := e435.2.2.1
         have x443 := (Touch.trans (Touch.via x422 t419.touch (fun jQ hQ => Or.inr (hbase jQ hQ.symm))) (Ext.touch t435))
         have hb1_444 := (Ext.keep t435 (Touch.keep t419.touch hb1_424 (fun (eQ : some b1 = _) => hno_b1 _ eQ.symm rfl)))
         have ho6_445 := (own_keep (own_touch ho6_426 t419.touch (fun jQ hQ eQ => (nor_symm hnor_0) jQ hQ eQ.symm)) t435)
         have t419.own_446 := (own_keep t419.own t435)
         refine then_norm ?_
         refine ⟨_, ⟨k + 1, A419, cp419, rfl, d435, z435, s436_0, s437_3, s438_4, s439_5, s441_6, (s442_7.trans (by first | rfl | (congr 1; omega) | (simp; omega) | simp)), x443, hb1_444, ho6_445, (by rw [semT_succ, ← flat_push, ← hval]; exact t419.own_446), by omega, no430, no423, no425⟩, ?_⟩; (show _ < _); rw [hmu15]; exact by omega
        ·have y399 := decide_eq_false c399
         have s447_93 : a388.eval (.tmp 93) = .bool (decide (((at_ L e0 (k : Int)).k) = 7)) := e388.2.1
         refine wp_cond_false (s447_93.trans (by rw [y399])) ?_
         have s448_24 := ((q388 24 rfl).trans s387_24)
         refine rgs mixed 154 [.eq (.bool (decide (((at_ L e0 (k : Int)).k) = 8))), .eq (.bool (decide (((at_ L e0 (k : Int)).k) = 8)))] [[(24, none)], [(102, some 0)]] d388 z388 (by kernel_rfl) ⟨Ov rfl rfl fun _ _ T ⟨k24, _⟩ => ex_eql (k24.trans s448_24) rfl, Ov rfl rfl fun _ _ T ⟨k102, _⟩ => ex_assign k102, trivial⟩ ?_
         intro a449 w449 d449 z449 t449 e449 q449
         have t52.here_450 := (Ext.keep t449 (Ext.keep t388 (Ext.keep t336 t52.here_284)))
         by_cases c451 : ((at_ L e0 (k : Int)).k) = 8
         ·have y451 := decide_eq_true c451
          have s452_101 : a449.eval (.tmp 101) = .bool (decide (((at_ L e0 (k : Int)).k) = 8)) := e449.2.1
          refine wp_cond_true (s452_101.trans (by rw [y451])) ?_
          have habc := hx.abc (by omega)
          have ea := at_semT (L := L) (v := hB x) (k := k) habc.1.1 habc.1.2; have eb := at_semT (L := L) (v := hB x) (k := k) habc.2.1.1 habc.2.1.2; have ec := at_semT (L := L) (v := hB x) (k := k) habc.2.2.1 habc.2.2.2
          refine wp_seq ?_
          refine stage_begin (fl := #[false, false, false, false, false, false, false, false, false, false, false, false, false]) mixed (by kernel_rfl) ?_
          intro w461 t461
          have s462_0 := ((q449 0 rfl).trans s389_0)
          have p464 := fr4 q59 q61 q120 q171
          have p465 := fr4 q224 q283 q336 q388
          have s463_8 := ((q449 8 rfl).trans ((p465 8 rfl).trans ((p464 8 rfl).trans s57_8)))
          have t52.here_466 := (Ext.keep t461 t52.here_450)
          have x468 := (Touch.trans (Touch.trans x398 (Ext.touch t449)) (Ext.touch t461))
          have rd467 := Reads.touch HR x468 (by decide) (reads_noF _ _)
          have s469_3 := ((q449 3 rfl).trans s390_3)
          have hb1_470 := (Ext.keep t461 (Ext.keep t449 hb1_395))
          refine stage 154 #[false, false, false, false, false, false, false, false, false, false, false, false, false] #[true, true, true, true, true, true, true, true, true, true, true, false, false] [.eq (.slice Q n cq), .eq (.pointer (some ⟨b44, 1, none⟩)), .eq (.int .i64 ((at_ L e0 (k : Int)).a)), .eq (.int .i64 (((at_ L e0 (k : Int)).a) + 1)), .eq (.slice Q (Int.toNat (((at_ L e0 (k : Int)).a) + 1)) cq), .eq (.agg #[.int .u32 x.1, .int .u32 x.2.1, .int .u8 x.2.2.1, .int .u16 x.2.2.2.1, .int .u16 x.2.2.2.2]), .eq (.pointer (some ⟨b44, 4, none⟩)), .eq (.int .i64 ((at_ L e0 (k : Int)).v)), .eq (.pointer (some ⟨b44, 5, none⟩)), .eq (.bool ((at_ L e0 (k : Int)).on)), .eq (.agg #[.int .u32 ((hmk (upd (hB x) ((at_ L e0 (k : Int)).v) ((at_ L e0 (k : Int)).on))).1), .int .u32 ((hmk (upd (hB x) ((at_ L e0 (k : Int)).v) ((at_ L e0 (k : Int)).on))).2.1), .int .u8 ((hmk (upd (hB x) ((at_ L e0 (k : Int)).v) ((at_ L e0 (k : Int)).on))).2.2.1), .int .u16 ((hmk (upd (hB x) ((at_ L e0 (k : Int)).v) ((at_ L e0 (k : Int)).on))).2.2.2.1), .int .u16 ((hmk (upd (hB x) ((at_ L e0 (k : Int)).v) ((at_ L e0 (k : Int)).on))).2.2.2.2)]), .any, .any] [[(0, none)], [(8, none)], [(104, some 1)], [(105, some 2)], [(103, some 0), (106, some 3)], [(3, none)], [(8, none)], [(109, some 6)], [(8, none)], [(111, some 8)], [(108, some 5), (110, some 7), (112, some 9)], [], []] d449 z449 (by kernel_rfl) ⟨Ov rfl rfl fun _ _ T ⟨k0, _⟩ => ex_move (k0.trans s462_0),
           Ov rfl rfl fun _ _ T ⟨k8, _⟩ => ex_fieldAddr (k8.trans s463_8) (fa_139_1 _ _ _),
           Ov rfl rfl fun _ _ T ⟨k104, _⟩ => ex_load k104 (Try.isAgg3 _) (cell_of (Ext.keep T.ext t52.here_466) rfl),
           Ov rfl rfl fun _ _ T ⟨k105, _⟩ => ex_add64 k105 rfl (by omega),
           Ov rfl rfl fun _ _ T ⟨k103, k106, _⟩ => ex_slice_hA Try.underlying45 (Try.sizeOf139 _) k103 (Reads.eqA rd467 (by omega)) k106 (by omega) (by omega),
           Ov rfl rfl fun _ _ T ⟨k3, _⟩ => ex_loadAgg (cs := [.int .u32 x.1, .int .u32 x.2.1, .int .u8 x.2.2.1, .int .u16 x.2.2.2.1, .int .u16 x.2.2.2.2]) (k3.trans s469_3) (Try.isAgg31 _) (Try.sizeOf31 _) (cells_of (off := 0) (Ext.keep T.ext hb1_470) rfl),
           Ov rfl rfl fun _ _ T ⟨k8, _⟩ => ex_fieldAddr (k8.trans s463_8) (fa_139_4 _ _ _),
           Ov rfl rfl fun _ _ T ⟨k109, _⟩ => ex_load k109 (Try.isAgg3 _) (cell_of (Ext.keep T.ext t52.here_466) rfl),
           Ov rfl rfl fun _ _ T ⟨k8, _⟩ => ex_fieldAddr (k8.trans s463_8) (fa_139_5 _ _ _),
           Ov rfl rfl fun _ _ T ⟨k111, _⟩ => ex_load k111 (Try.isAgg4 _) (cell_of (Ext.keep T.ext t52.here_466) rfl),
           Oc rfl (fun _ _ T ⟨k108, k110, k112, _⟩ => ⟨exl_call Try.func110 rfl rfl (cons_ops k108 (cons_ops k110 (cons_ops k112 nil_ops))), c_with06 (x := x) H ((at_ L e0 (k : Int)).v) ((at_ L e0 (k : Int)).on) (by omega)⟩) rfl,
           trivial,
           trivial,
           trivial⟩ ?_
          intro a471 w471 d471 z471 t471 e471 q471
          have x474 := (Touch.trans x468 (Ext.touch t471))
          have rd473 := Reads.touch HR x474 (by decide) (reads_noF _ _)
          refine stage_call 154 11 #[true, true, true, true, true, true, true, true, true, true, true, false, false] #[true, true, true, true, true, true, true, true, true, true, true, true, false] z471 (by kernel_rfl) (by kernel_rfl) rfl rfl rfl (exl_call Try.func73 rfl rfl (cons_ops e471.2.2.2.2.1 (cons_ops e471.2.2.2.2.2.2.2.2.2.2.1 nil_ops))) (ih (Reads.take rd473 exv6 (by omega) hn.symm) (by rw [List.length_take]; omega) (by omega) (right_take hR _) (by omega) (hmk_ok _) (by omega)) ?_
          rintro e472 w472 ⟨A472, c472, he472, ho472, t472, hb472⟩; refine ⟨_, he472, ?_⟩; intro a472 u472 z472
          have hb1_476 := (Ext.keep t471 hb1_470)
          have no475 := row_no (hb472) (lt_of hb1_476)
          have ho6_478 := (own_keep (own_keep (own_keep ho6_396 t449) t461) t471)
          have no477 := row_nor (hb472) (fun jQ hQ => own_lt ho6_478 hQ)
          have f32_480 := (own_keep (own_keep (own_keep f32_397 t449) t461) t471)
          have no479 := row_nor (hb472) (fun jQ hQ => own_lt f32_480 hQ)
          have t52.here_482 := (Ext.keep t471 t52.here_466)
          have no481 := row_no (hb472) (lt_of t52.here_482)
          have no483 := row_base (hb472) (Touch.size x474)
          have d484 := (u472.defs.trans d471)
          have s485_114 : a472.eval (.tmp 114) = .slice A472 (Int.toNat (((at_ L e0 (k : Int)).a) + 1)) c472 := (u472.here _ rfl)
          refine stage 154 #[true, true, true, true, true, true, true, true, true, true, true, true, false] #[true, true, true, true, true, true, true, true, true, true, true, true, true] [.any, .any, .any, .any, .any, .any, .any, .any, .any, .any, .any, .any, .eq (.slice A472 (Int.toNat (((at_ L e0 (k : Int)).a) + 1)) c472)] [[], [], [], [], [], [], [], [], [], [], [], [], [(114, none)]] d484 z472 (by kernel_rfl) ⟨trivial,
           trivial,
           trivial,
           trivial,
           trivial,
           trivial,
           trivial,
           trivial,
           trivial,
           trivial,
           trivial,
           trivial,
           Ov rfl rfl fun _ _ T ⟨k114, _⟩ => ex_assign (k114.trans s485_114),
           trivial⟩ ?_
          intro a486 w486 d486 z486 t486 e486 q486
          refine stage_end (by kernel_rfl) ?_
          have s487_10 : a486.eval (.tmp 10) = .slice A472 (Int.toNat (((at_ L e0 (k : Int)).a) + 1)) c472 := e486.2.2.2.2.2.2.2.2.2.2.2.2.1
          have s488_8 := ((q486 8 rfl).trans ((u472.past 8 rfl).trans ((q471 8 rfl).trans s463_8)))
          have t52.here_489 := (Ext.keep t486 (Ext.keep t472 t52.here_482))
          have ho472_490 := (own_keep ho472 t486)
          refine rg mixed 154 [.eq (.slice A472 (Int.toNat (((at_ L e0 (k : Int)).a) + 1)) c472), .eq (.pointer (some ⟨b44, 1, none⟩)), .eq (.int .i64 ((at_ L e0 (k : Int)).a)), .eq (.pointer (some ⟨(rowB A472), Int.toNat ((at_ L e0 (k : Int)).a) * 1, none⟩)), .eq (.bool (at_ (semT (List.take (Int.toNat (((at_ L e0 (k : Int)).a) + 1)) L) (hB (hmk (upd (hB x) ((at_ L e0 (k : Int)).v) ((at_ L e0 (k : Int)).on)))) (Int.toNat (((at_ L e0 (k : Int)).a) + 1))) false ((at_ L e0 (k : Int)).a))), .eq (.bool (at_ (semT (List.take (Int.toNat (((at_ L e0 (k : Int)).a) + 1)) L) (hB (hmk (upd (hB x) ((at_ L e0 (k : Int)).v) ((at_ L e0 (k : Int)).on)))) (Int.toNat (((at_ L e0 (k : Int)).a) + 1))) false ((at_ L e0 (k : Int)).a)))] [[(10, none)], [(8, none)], [(116, some 1)], [(115, some 0), (117, some 2)], [(118, some 3)], [(119, some 4)]] d486 z486 (by kernel_rfl) ⟨Ov rfl rfl fun _ _ T ⟨k10, _⟩ => ex_move (k10.trans s487_10),
           Ov rfl rfl fun _ _ T ⟨k8, _⟩ => ex_fieldAddr (k8.trans s488_8) (fa_139_1 _ _ _),
           Ov rfl rfl fun _ _ T ⟨k116, _⟩ => ex_load k116 (Try.isAgg3 _) (cell_of (Ext.keep T.ext t52.here_489) rfl),
           Ov rfl rfl fun _ _ T ⟨k115, k117, _⟩ => ex_ixa Try.underlying52 (Try.sizeOf4 _) k115 (own_eqA ho472_490 (by omega)) k117 (by omega) (by omega),
           Ov rfl rfl fun _ _ T ⟨k118, _⟩ => ex_load k118 (Try.isAgg4 _) (own_at (own_keep ho472_490 T.ext) (own_eqA ho472_490 (by omega)) bov1_1 (at_some' (d := false) ((semT_len _ _ _).symm) (by omega) (by omega)) 0 rfl),
           Ov rfl rfl fun _ _ T ⟨k119, _⟩ => ex_assign k119,
           trivial⟩ ?_
          intro a491 w491 d491 z491 t491 e491 q491
          repeat (with_reducible refine block_norm ?_)
          refine hK55 _ _ ?_
          have hval : (at_ (semT (List.take (Int.toNat (((at_ L e0 (k : Int)).a) + 1)) L) (hB (hmk (upd (hB x) ((at_ L e0 (k : Int)).v) ((at_ L e0 (k : Int)).on)))) (Int.toNat (((at_ L e0 (k : Int)).a) + 1))) false ((at_ L e0 (k : Int)).a)) = sem L (k : Int) (hB x) := by
           rw [sem_k8 (i := (k : Int)) hR (by omega) (by omega) _ (by omega), at_semT (by omega) (by omega), sem_take hR (by omega) _ _ _ (Nat.le_refl _) (by omega) (by omega), sem_mk hR (by omega) (by omega)]
          refine seq_begin ?_
          have p493 := fr4 q449 q471 u472.past q486
          refine sp z491 rfl rfl (ex_move ((q491 6 rfl).trans ((p493 6 rfl).trans s393_6))) ?_; intro a492 u492 z492
          refine sp z492 rfl rfl (ex_move ((u492.past 9 rfl).trans e491.2.2.2.2.2.1)) ?_; intro a494 u494 z494
          refine snew (mk := fun bQ => .slice (some ⟨bQ, 0, none⟩) 1 1) z494 rfl rfl (exl_buildSlice (cons_parts (u494.here _ rfl) nil_parts) (bs_52_1_0B (at_ (semT (List.take (Int.toNat (((at_ L e0 (k : Int)).a) + 1)) L) (hB (hmk (upd (hB x) ((at_ L e0 (k : Int)).v) ((at_ L e0 (k : Int)).on)))) (Int.toNat (((at_ L e0 (k : Int)).a) + 1))) false ((at_ L e0 (k : Int)).a)) _)) ?_; intro b495 w495 a495 t495 g495 hb495 u495 z495
          have hb1_497 := (Ext.keep t491 (Ext.keep t486 (Ext.keep t472 hb1_476)))
          have n496_b1_b495 := ne_lt (lt_of hb1_497) g495
          have ho6_499 := (own_keep (own_keep (own_keep ho6_478 t472) t486) t491)
          have no498 := no_new ho6_499 g495
          have f32_501 := (own_keep (own_keep (own_keep f32_480 t472) t486) t491)
          have no500 := no_new f32_501 g495
          have t52.here_503 := (Ext.keep t491 t52.here_489)
          have n502_b44_b495 := ne_lt (lt_of t52.here_503) g495
          have ho472_505 := (own_keep ho472_490 t491)
          have no504 := no_new ho472_505 g495
          have x507 := (Touch.trans (Touch.trans (Touch.trans x474 (Ext.touch t472)) (Ext.touch t486)) (Ext.touch t491))
          have yb495_506 := Nat.le_trans (Touch.size x507) g495
          have f32_509 := (own_keep f32_501 t495)
          refine sapp (m := 1) (news := [.bool (at_ (semT (List.take (Int.toNat (((at_ L e0 (k : Int)).a) + 1)) L) (hB (hmk (upd (hB x) ((at_ L e0 (k : Int)).v) ((at_ L e0 (k : Int)).on)))) (Int.toNat (((at_ L e0 (k : Int)).a) + 1))) false ((at_ L e0 (k : Int)).a))]) z495 rfl el_52 f32_509 ((u495.past 149 rfl).trans ((u494.past 149 rfl).trans (u492.here _ rfl))) (u495.here _ rfl) rfl (news_of hb495) rfl (by omega) (by omega) ?_; intro A508 cp508 w508 a508 t508 u508 z508
          have x511 := (Touch.trans x507 (Ext.touch t495))
          have hb1_513 := (Ext.keep t495 hb1_497)
          have no512 := App.no t508 (lt_of hb1_513) (fun (jQ : Nat) hQ (eQ : jQ = b1) => (fun (eQ : some b1 = _) => hno_b1 _ eQ.symm rfl) (by rw [← eQ]; exact hQ.symm))
          have ho6_515 := (own_keep ho6_499 t495)
          have no514 := App.nor t508 (fun jQ hQ => own_lt ho6_515 hQ) hnor_0
          have t52.here_517 := (Ext.keep t495 t52.here_503)
          have no516 := App.no t508 (lt_of t52.here_517) (fun (jQ : Nat) hQ (eQ : jQ = b44) => (fun (eQ : some b44 = _) => no49 _ eQ.symm rfl) (by rw [← eQ]; exact hQ.symm))
          have ho472_519 := (own_keep ho472_505 t495)
          have no518 := App.nor t508 (fun jQ hQ => own_lt ho472_519 hQ) (nor_symm no479)
          have no520 := App.no t508 (lt_of hb495) (fun (jQ : Nat) hQ (eQ : jQ = b495) => (fun (eQ : some b495 = _) => no500 _ eQ.symm rfl) (by rw [← eQ]; exact hQ.symm))
          have no521 := App.base t508 (Touch.size x511) hbase
          refine sp z508 rfl rfl (ex_assign (u508.here _ rfl)) ?_; intro a522 u522 z522
          have d523 := (u522.defs.trans (u508.defs.trans (u495.defs.trans (u494.defs.trans (u492.defs.trans d491)))))
          refine seq_end ?_
          repeat (with_reducible refine block_norm ?_)
          refine hK37 _ _ ?_
          have p525 := fr4 q491 u492.past u494.past u495.past
          have s524_7 := ((u522.past 7 rfl).trans ((u508.past 7 rfl).trans ((p525 7 rfl).trans ((p493 7 rfl).trans s394_7))))
          refine rg mixed 154 [.eq (.int .i64 (k : Int)), .eq (.int .i64 ((k : Int) + 1)), .eq (.int .i64 ((k : Int) + 1))] [[(7, none)], [(17, some 0)], [(18, some 1)]] d523 z522 (by kernel_rfl) ⟨Ov rfl rfl fun _ _ T ⟨k7, _⟩ => ex_move (k7.trans s524_7), Ov rfl rfl fun _ _ T ⟨k17, _⟩ => ex_add64 k17 rfl (by omega), Ov rfl rfl fun _ _ T ⟨k18, _⟩ => ex_assign k18, trivial⟩ ?_
          intro a526 w526 d526 z526 t526 e526 q526
          repeat (with_reducible refine block_norm ?_)
          have s527_0 := ((q526 0 rfl).trans ((u522.past 0 rfl).trans ((u508.past 0 rfl).trans ((p525 0 rfl).trans ((q486 0 rfl).trans ((u472.past 0 rfl).trans ((q471 0 rfl).trans s462_0)))))))
          have s528_3 := ((q526 3 rfl).trans ((u522.past 3 rfl).trans ((u508.past 3 rfl).trans ((p525 3 rfl).trans ((q486 3 rfl).trans ((u472.past 3 rfl).trans ((q471 3 rfl).trans s469_3)))))))
          have s529_4 := ((q526 4 rfl).trans ((u522.past 4 rfl).trans ((u508.past 4 rfl).trans ((p525 4 rfl).trans ((p493 4 rfl).trans s391_4)))))
          have s530_5 := ((q526 5 rfl).trans ((u522.past 5 rfl).trans ((u508.past 5 rfl).trans ((p525 5 rfl).trans ((p493 5 rfl).trans s392_5)))))
          have s531_6 : a522.eval (.tmp 6) = .slice A508 (k + 1) cp508 := (u522.here _ rfl)
          have s532_6 := ((q526 6 rfl).trans s531_6)
          have s533_7 : a526.eval (.tmp 7) = .int .i64 ((k : Int) + 1) := e526.2.2.1
          have x534 := (Touch.trans (Touch.via x511 t508.touch (fun jQ hQ => Or.inr (hbase jQ hQ.symm))) (Ext.touch t526))
          have hb1_535 := (Ext.keep t526 (Touch.keep t508.touch hb1_513 (fun (eQ : some b1 = _) => hno_b1 _ eQ.symm rfl)))
          have ho6_536 := (own_keep (own_touch ho6_515 t508.touch (fun jQ hQ eQ => (nor_symm hnor_0) jQ hQ eQ.symm)) t526)
          have t508.own_537 := (own_keep t508.own t526)
          refine then_norm ?_
          refine ⟨_, ⟨k + 1, A508, cp508, rfl, d526, z526, s527_0, s528_3, s529_4, s530_5, s532_6, (s533_7.trans (by first | rfl | (congr 1; omega) | (simp; omega) | simp)), x534, hb1_535, ho6_536, (by rw [semT_succ, ← flat_push, ← hval]; exact t508.own_537), by omega, no521, no512, no514⟩, ?_⟩; (show _ < _); rw [hmu15]; exact by omega
         ·have y451 := decide_eq_false c451
          have s538_101 : a449.eval (.tmp 101) = .bool (decide (((at_ L e0 (k : Int)).k) = 8)) := e449.2.1
          refine wp_cond_false (s538_101.trans (by rw [y451])) ?_
          have s539_24 := ((q449 24 rfl).trans s448_24)
          refine rgs mixed 154 [.eq (.bool (decide (((at_ L e0 (k : Int)).k) = 9))), .eq (.bool (decide (((at_ L e0 (k : Int)).k) = 9)))] [[(24, none)], [(121, some 0)]] d449 z449 (by kernel_rfl) ⟨Ov rfl rfl fun _ _ T ⟨k24, _⟩ => ex_eql (k24.trans s539_24) rfl, Ov rfl rfl fun _ _ T ⟨k121, _⟩ => ex_assign k121, trivial⟩ ?_
          intro a540 w540 d540 z540 t540 e540 q540
          have x541 := (Touch.trans (Touch.trans x398 (Ext.touch t449)) (Ext.touch t540))
          by_cases c542 : ((at_ L e0 (k : Int)).k) = 9
          ·have y542 := decide_eq_true c542
           have s543_120 : a540.eval (.tmp 120) = .bool (decide (((at_ L e0 (k : Int)).k) = 9)) := e540.2.1
           refine wp_cond_true (s543_120.trans (by rw [y542])) ?_
           rcases Bool.eq_false_or_eq_true ((at_ (semT L (hB x) k) false ((at_ L e0 (k : Int)).a)) && (at_ (semT L (hB x) k) false ((at_ L e0 (k : Int)).b))) with y550 | y550
           ·have c550 := y550
            have habc := hx.abc (by omega)
            have ea := at_semT (L := L) (v := hB x) (k := k) habc.1.1 habc.1.2; have eb := at_semT (L := L) (v := hB x) (k := k) habc.2.1.1 habc.2.1.2; have ec := at_semT (L := L) (v := hB x) (k := k) habc.2.2.1 habc.2.2.2
            have s551_6 := ((q540 6 rfl).trans ((q449 6 rfl).trans s393_6))
            have p553 := fr4 q59 q61 q120 q171
            have p554 := fr4 q224 q283 q336 q388
            have s552_8 := ((q540 8 rfl).trans ((q449 8 rfl).trans ((p554 8 rfl).trans ((p553 8 rfl).trans s57_8))))
            have t52.here_555 := (Ext.keep t540 t52.here_450)
            have f32_556 := (own_keep (own_keep f32_397 t449) t540)
            refine rg mixed 154 [.eq (.slice A1 k c1), .eq (.pointer (some ⟨b44, 1, none⟩)), .eq (.int .i64 ((at_ L e0 (k : Int)).a)), .eq (.pointer (some ⟨(rowB A1), Int.toNat ((at_ L e0 (k : Int)).a) * 1, none⟩)), .eq (.bool (at_ (semT L (hB x) k) false ((at_ L e0 (k : Int)).a))), .eq (.bool (at_ (semT L (hB x) k) false ((at_ L e0 (k : Int)).a))), .eq (if (at_ (semT L (hB x) k) false ((at_ L e0 (k : Int)).a)) = true then .slice A1 k c1 else undef), .eq (if (at_ (semT L (hB x) k) false ((at_ L e0 (k : Int)).a)) = true then .pointer (some ⟨b44, 2, none⟩) else undef), .eq (if (at_ (semT L (hB x) k) false ((at_ L e0 (k : Int)).a)) = true then .int .i64 ((at_ L e0 (k : Int)).b) else undef), .eq (if (at_ (semT L (hB x) k) false ((at_ L e0 (k : Int)).a)) = true then .pointer (some ⟨(rowB A1), Int.toNat ((at_ L e0 (k : Int)).b) * 1, none⟩) else undef), .eq (if (at_ (semT L (hB x) k) false ((at_ L e0 (k : Int)).a)) = true then .bool (at_ (semT L (hB x) k) false ((at_ L e0 (k : Int)).b)) else undef), .eq (.bool ((at_ (semT L (hB x) k) false ((at_ L e0 (k : Int)).a)) && (at_ (semT L (hB x) k) false ((at_ L e0 (k : Int)).b)))), .eq (.bool ((at_ (semT L (hB x) k) false ((at_ L e0 (k : Int)).a)) && (at_ (semT L (hB x) k) false ((at_ L e0 (k : Int)).b)))), .eq undef, .eq undef, .eq undef, .eq undef, .eq undef, .eq undef, .eq undef, .eq undef, .eq undef, .eq undef, .eq undef, .eq undef, .eq undef, .eq (.bool true), .eq (.bool true)] [[(6, none)], [(8, none)], [(123, some 1)], [(122, some 0), (124, some 2)], [(125, some 3)], [(126, some 4)], [(6, none), (127, some 5)], [(8, none), (127, some 5)], [(129, some 7), (127, some 5)], [(128, some 6), (130, some 8), (127, some 5)], [(131, some 9), (127, some 5)], [(127, some 5), (132, some 10)], [(133, some 11)], [(6, none), (134, some 12)], [(8, none), (134, some 12)], [(136, some 14), (134, some 12)], [(135, some 13), (137, some 15), (134, some 12)], [(138, some 16), (134, some 12)], [(139, some 17), (134, some 12)], [(140, some 18), (134, some 12)], [(6, none), (141, some 19)], [(8, none), (141, some 19)], [(143, some 21), (141, some 19)], [(142, some 20), (144, some 22), (141, some 19)], [(145, some 23), (141, some 19)], [(141, some 19), (146, some 24), (134, some 12)], [(134, some 12), (147, some 25)], [(148, some 26)]] d540 z540 (by kernel_rfl) ⟨Ov rfl rfl fun _ _ T ⟨k6, _⟩ => ex_move (k6.trans s551_6),
             Ov rfl rfl fun _ _ T ⟨k8, _⟩ => ex_fieldAddr (k8.trans s552_8) (fa_139_1 _ _ _),
             Ov rfl rfl fun _ _ T ⟨k123, _⟩ => ex_load k123 (Try.isAgg3 _) (cell_of (Ext.keep T.ext t52.here_555) rfl),
             Ov rfl rfl fun _ _ T ⟨k122, k124, _⟩ => ex_ixa Try.underlying52 (Try.sizeOf4 _) k122 (own_eqA f32_556 (by omega)) k124 (by omega) (by omega),
             Ov rfl rfl fun _ _ T ⟨k125, _⟩ => ex_load k125 (Try.isAgg4 _) (own_at (own_keep f32_556 T.ext) (own_eqA f32_556 (by omega)) bov1_1 (at_some' (d := false) ((semT_len _ _ _).symm) (by omega) (by omega)) 0 rfl),
             Ov rfl rfl fun _ _ T ⟨k126, _⟩ => ex_move k126,
             Og rfl rfl rfl fun _ _ T ⟨k6, k127, _⟩ => ⟨k127, fun hcQ => ex_move (k6.trans s551_6)⟩,
             Og rfl rfl rfl fun _ _ T ⟨k8, k127, _⟩ => ⟨k127, fun hcQ => ex_fieldAddr (k8.trans s552_8) (fa_139_2 _ _ _)⟩,
             Og rfl rfl rfl fun _ _ T ⟨k129, k127, _⟩ => ⟨k127, fun hcQ => ex_load (k129.trans (if_pos hcQ)) (Try.isAgg3 _) (cell_of (Ext.keep T.ext t52.here_555) rfl)⟩,
             Og rfl rfl rfl fun _ _ T ⟨k128, k130, k127, _⟩ => ⟨k127, fun hcQ => by have hdQ := hcQ; (try simp only [Bool.and_eq_true, Bool.or_eq_false_iff, Bool.not_eq_true', Bool.not_eq_false', beq_iff_eq, decide_eq_true_eq, decide_eq_false_iff_not] at hdQ); exact ex_ixa Try.underlying52 (Try.sizeOf4 _) (k128.trans (if_pos hcQ)) (own_eqA f32_556 (by omega)) (k130.trans (if_pos hcQ)) (by omega) (by omega)⟩,
             Og rfl rfl rfl fun _ _ T ⟨k131, k127, _⟩ => ⟨k127, fun hcQ => by have hdQ := hcQ; (try simp only [Bool.and_eq_true, Bool.or_eq_false_iff, Bool.not_eq_true', Bool.not_eq_false', beq_iff_eq, decide_eq_true_eq, decide_eq_false_iff_not] at hdQ); exact ex_load (k131.trans (if_pos hcQ)) (Try.isAgg4 _) (own_at (own_keep f32_556 T.ext) (own_eqA f32_556 (by omega)) bov1_1 (at_some' (d := false) ((semT_len _ _ _).symm) (by omega) (by omega)) 0 rfl)⟩,
             Ov rfl rfl fun _ _ T ⟨k127, k132, _⟩ => ex_pick_and k127 k132 rfl,
             Ov rfl rfl fun _ _ T ⟨k133, _⟩ => ex_move k133,
             On rfl rfl rfl fun _ _ ⟨k6, k134, _⟩ => .inl (k134.trans (by rw [y550]; rfl)),
             On rfl rfl rfl fun _ _ ⟨k8, k134, _⟩ => .inl (k134.trans (by rw [y550]; rfl)),
             On rfl rfl rfl fun _ _ ⟨k136, k134, _⟩ => .inl (k134.trans (by rw [y550]; rfl)),
             On rfl rfl rfl fun _ _ ⟨k135, k137, k134, _⟩ => .inl (k134.trans (by rw [y550]; rfl)),
             On rfl rfl rfl fun _ _ ⟨k138, k134, _⟩ => .inl (k134.trans (by rw [y550]; rfl)),
             On rfl rfl rfl fun _ _ ⟨k139, k134, _⟩ => .inl (k134.trans (by rw [y550]; rfl)),
             On rfl rfl rfl fun _ _ ⟨k140, k134, _⟩ => .inl (k134.trans (by rw [y550]; rfl)),
             On rfl rfl rfl fun _ _ ⟨k6, k141, _⟩ => .inr k141,
             On rfl rfl rfl fun _ _ ⟨k8, k141, _⟩ => .inr k141,
             On rfl rfl rfl fun _ _ ⟨k143, k141, _⟩ => .inr k141,
             On rfl rfl rfl fun _ _ ⟨k142, k144, k141, _⟩ => .inr k141,
             On rfl rfl rfl fun _ _ ⟨k145, k141, _⟩ => .inr k141,
             On rfl rfl rfl fun _ _ ⟨k141, k146, k134, _⟩ => .inl (k134.trans (by rw [y550]; rfl)),
             Ov rfl rfl fun _ _ T ⟨k134, k147, _⟩ => ex_pick_t (k134.trans (by rw [y550])) rfl,
             Ov rfl rfl fun _ _ T ⟨k148, _⟩ => ex_assign k148,
             trivial⟩ ?_
            intro a557 w557 d557 z557 t557 e557 q557
            repeat (with_reducible refine block_norm ?_)
            refine hK55 _ _ ?_
            have key : ∀ pa pb pc : Bool, (pa && pb) = true → true = (if pa then pb else pc) := by decide
            have hval : true = sem L (k : Int) (hB x) := by
             have hkk : (at_ L e0 (k : Int)).k = 9 := by omega
             rw [sem_k9 (i := (k : Int)) hR (by omega) (by omega) _ (by omega), ← ea, ← eb, ← ec]
             first | done | exact key (at_ (semT L (hB x) k) false ((at_ L e0 (k : Int)).a)) (at_ (semT L (hB x) k) false ((at_ L e0 (k : Int)).b)) (at_ (semT L (hB x) k) false ((at_ L e0 (k : Int)).c)) y550
            refine seq_begin ?_
            refine sp z557 rfl rfl (ex_move ((q557 6 rfl).trans s551_6)) ?_; intro a558 u558 z558
            refine sp z558 rfl rfl (ex_move ((u558.past 9 rfl).trans e557.2.2.2.2.2.2.2.2.2.2.2.2.2.2.2.2.2.2.2.2.2.2.2.2.2.2.2.1)) ?_; intro a559 u559 z559
            refine snew (mk := fun bQ => .slice (some ⟨bQ, 0, none⟩) 1 1) z559 rfl rfl (exl_buildSlice (cons_parts (u559.here _ rfl) nil_parts) (bs_52_1_0B true _)) ?_; intro b560 w560 a560 t560 g560 hb560 u560 z560
            have hb1_562 := (Ext.keep t557 (Ext.keep t540 (Ext.keep t449 hb1_395)))
            have n561_b1_b560 := ne_lt (lt_of hb1_562) g560
            have ho6_564 := (own_keep (own_keep (own_keep ho6_396 t449) t540) t557)
            have no563 := no_new ho6_564 g560
            have f32_566 := (own_keep f32_556 t557)
            have no565 := no_new f32_566 g560
            have t52.here_568 := (Ext.keep t557 t52.here_555)
            have n567_b44_b560 := ne_lt (lt_of t52.here_568) g560
            have x570 := (Touch.trans x541 (Ext.touch t557))
            have yb560_569 := Nat.le_trans (Touch.size x570) g560
            have f32_572 := (own_keep f32_566 t560)
            refine sapp (m := 1) (news := [.bool true]) z560 rfl el_52 f32_572 ((u560.past 149 rfl).trans ((u559.past 149 rfl).trans (u558.here _ rfl))) (u560.here _ rfl) rfl (news_of hb560) rfl (by omega) (by omega) ?_; intro A571 cp571 w571 a571 t571 u571 z571
            have x574 := (Touch.trans x570 (Ext.touch t560))
            have hb1_576 := (Ext.keep t560 hb1_562)
            have no575 := App.no t571 (lt_of hb1_576) (fun (jQ : Nat) hQ (eQ : jQ = b1) => (fun (eQ : some b1 = _) => hno_b1 _ eQ.symm rfl) (by rw [← eQ]; exact hQ.symm))
            have ho6_578 := (own_keep ho6_564 t560)
            have no577 := App.nor t571 (fun jQ hQ => own_lt ho6_578 hQ) hnor_0
            have t52.here_580 := (Ext.keep t560 t52.here_568)
            have no579 := App.no t571 (lt_of t52.here_580) (fun (jQ : Nat) hQ (eQ : jQ = b44) => (fun (eQ : some b44 = _) => no49 _ eQ.symm rfl) (by rw [← eQ]; exact hQ.symm))
            have no581 := App.no t571 (lt_of hb560) (fun (jQ : Nat) hQ (eQ : jQ = b560) => (fun (eQ : some b560 = _) => no565 _ eQ.symm rfl) (by rw [← eQ]; exact hQ.symm))
            have no582 := App.base t571 (Touch.size x574) hbase
            refine sp z571 rfl rfl (ex_assign (u571.here _ rfl)) ?_; intro a583 u583 z583
            have d584 := (u583.defs.trans (u571.defs.trans (u560.defs.trans (u559.defs.trans (u558.defs.trans d557)))))
            refine seq_end ?_
            repeat (with_reducible refine block_norm ?_)
            refine hK37 _ _ ?_
            have p586 := fr4 q449 q540 q557 u558.past
            have p587 := fr4 u559.past u560.past u571.past u583.past
            have s585_7 := ((p587 7 rfl).trans ((p586 7 rfl).trans s394_7))
            refine rg mixed 154 [.eq (.int .i64 (k : Int)), .eq (.int .i64 ((k : Int) + 1)), .eq (.int .i64 ((k : Int) + 1))] [[(7, none)], [(17, some 0)], [(18, some 1)]] d584 z583 (by kernel_rfl) ⟨Ov rfl rfl fun _ _ T ⟨k7, _⟩ => ex_move (k7.trans s585_7), Ov rfl rfl fun _ _ T ⟨k17, _⟩ => ex_add64 k17 rfl (by omega), Ov rfl rfl fun _ _ T ⟨k18, _⟩ => ex_assign k18, trivial⟩ ?_
            intro a588 w588 d588 z588 t588 e588 q588
            repeat (with_reducible refine block_norm ?_)
            have s589_0 := ((q588 0 rfl).trans ((p587 0 rfl).trans ((p586 0 rfl).trans s389_0)))
            have s590_3 := ((q588 3 rfl).trans ((p587 3 rfl).trans ((p586 3 rfl).trans s390_3)))
            have s591_4 := ((q588 4 rfl).trans ((p587 4 rfl).trans ((p586 4 rfl).trans s391_4)))
            have s592_5 := ((q588 5 rfl).trans ((p587 5 rfl).trans ((p586 5 rfl).trans s392_5)))
            have s593_6 : a583.eval (.tmp 6) = .slice A571 (k + 1) cp571 := (u583.here _ rfl)
            have s594_6 := ((q588 6 rfl).trans s593_6)
            have s595_7 : a588.eval (.tmp 7) = .int .i64 ((k : Int) + 1) := e588.2.2.1
            have x596 := (Touch.trans (Touch.via x574 t571.touch (fun jQ hQ => Or.inr (hbase jQ hQ.symm))) (Ext.touch t588))
            have hb1_597 := (Ext.keep t588 (Touch.keep t571.touch hb1_576 (fun (eQ : some b1 = _) => hno_b1 _ eQ.symm rfl)))
            have ho6_598 := (own_keep (own_touch ho6_578 t571.touch (fun jQ hQ eQ => (nor_symm hnor_0) jQ hQ eQ.symm)) t588)
            have t571.own_599 := (own_keep t571.own t588)
            refine then_norm ?_
            refine ⟨_, ⟨k + 1, A571, cp571, rfl, d588, z588, s589_0, s590_3, s591_4, s592_5, s594_6, (s595_7.trans (by first | rfl | (congr 1; omega) | (simp; omega) | simp)), x596, hb1_597, ho6_598, (by rw [semT_succ, ← flat_push, ← hval]; exact t571.own_599), by omega, no582, no575, no577⟩, ?_⟩; (show _ < _); rw [hmu15]; exact by omega
           ·have c550 := y550
            have habc := hx.abc (by omega)
            have ea := at_semT (L := L) (v := hB x) (k := k) habc.1.1 habc.1.2; have eb := at_semT (L := L) (v := hB x) (k := k) habc.2.1.1 habc.2.1.2; have ec := at_semT (L := L) (v := hB x) (k := k) habc.2.2.1 habc.2.2.2
            have s600_6 := ((q540 6 rfl).trans ((q449 6 rfl).trans s393_6))
            have p602 := fr4 q59 q61 q120 q171
            have p603 := fr4 q224 q283 q336 q388
            have s601_8 := ((q540 8 rfl).trans ((q449 8 rfl).trans ((p603 8 rfl).trans ((p602 8 rfl).trans s57_8))))
            have t52.here_604 := (Ext.keep t540 t52.here_450)
            have f32_605 := (own_keep (own_keep f32_397 t449) t540)
            refine rg mixed 154 [.eq (.slice A1 k c1), .eq (.pointer (some ⟨b44, 1, none⟩)), .eq (.int .i64 ((at_ L e0 (k : Int)).a)), .eq (.pointer (some ⟨(rowB A1), Int.toNat ((at_ L e0 (k : Int)).a) * 1, none⟩)), .eq (.bool (at_ (semT L (hB x) k) false ((at_ L e0 (k : Int)).a))), .eq (.bool (at_ (semT L (hB x) k) false ((at_ L e0 (k : Int)).a))), .eq (if (at_ (semT L (hB x) k) false ((at_ L e0 (k : Int)).a)) = true then .slice A1 k c1 else undef), .eq (if (at_ (semT L (hB x) k) false ((at_ L e0 (k : Int)).a)) = true then .pointer (some ⟨b44, 2, none⟩) else undef), .eq (if (at_ (semT L (hB x) k) false ((at_ L e0 (k : Int)).a)) = true then .int .i64 ((at_ L e0 (k : Int)).b) else undef), .eq (if (at_ (semT L (hB x) k) false ((at_ L e0 (k : Int)).a)) = true then .pointer (some ⟨(rowB A1), Int.toNat ((at_ L e0 (k : Int)).b) * 1, none⟩) else undef), .eq (if (at_ (semT L (hB x) k) false ((at_ L e0 (k : Int)).a)) = true then .bool (at_ (semT L (hB x) k) false ((at_ L e0 (k : Int)).b)) else undef), .eq (.bool ((at_ (semT L (hB x) k) false ((at_ L e0 (k : Int)).a)) && (at_ (semT L (hB x) k) false ((at_ L e0 (k : Int)).b)))), .eq (.bool ((at_ (semT L (hB x) k) false ((at_ L e0 (k : Int)).a)) && (at_ (semT L (hB x) k) false ((at_ L e0 (k : Int)).b)))), .eq (.slice A1 k c1), .eq (.pointer (some ⟨b44, 1, none⟩)), .eq (.int .i64 ((at_ L e0 (k : Int)).a)), .eq (.pointer (some ⟨(rowB A1), Int.toNat ((at_ L e0 (k : Int)).a) * 1, none⟩)), .eq (.bool (at_ (semT L (hB x) k) false ((at_ L e0 (k : Int)).a))), .eq (.bool (!(at_ (semT L (hB x) k) false ((at_ L e0 (k : Int)).a)))), .eq (.bool (!(at_ (semT L (hB x) k) false ((at_ L e0 (k : Int)).a)))), .eq (if (!(at_ (semT L (hB x) k) false ((at_ L e0 (k : Int)).a))) = true then .slice A1 k c1 else undef), .eq (if (!(at_ (semT L (hB x) k) false ((at_ L e0 (k : Int)).a))) = true then .pointer (some ⟨b44, 3, none⟩) else undef), .eq (if (!(at_ (semT L (hB x) k) false ((at_ L e0 (k : Int)).a))) = true then .int .i64 ((at_ L e0 (k : Int)).c) else undef), .eq (if (!(at_ (semT L (hB x) k) false ((at_ L e0 (k : Int)).a))) = true then .pointer (some ⟨(rowB A1), Int.toNat ((at_ L e0 (k : Int)).c) * 1, none⟩) else undef), .eq (if (!(at_ (semT L (hB x) k) false ((at_ L e0 (k : Int)).a))) = true then .bool (at_ (semT L (hB x) k) false ((at_ L e0 (k : Int)).c)) else undef), .eq (.bool ((!(at_ (semT L (hB x) k) false ((at_ L e0 (k : Int)).a))) && (at_ (semT L (hB x) k) false ((at_ L e0 (k : Int)).c)))), .eq (.bool ((!(at_ (semT L (hB x) k) false ((at_ L e0 (k : Int)).a))) && (at_ (semT L (hB x) k) false ((at_ L e0 (k : Int)).c)))), .eq (.bool ((!(at_ (semT L (hB x) k) false ((at_ L e0 (k : Int)).a))) && (at_ (semT L (hB x) k) false ((at_ L e0 (k : Int)).c))))] [[(6, none)], [(8, none)], [(123, some 1)], [(122, some 0), (124, some 2)], [(125, some 3)], [(126, some 4)], [(6, none), (127, some 5)], [(8, none), (127, some 5)], [(129, some 7), (127, some 5)], [(128, some 6), (130, some 8), (127, some 5)], [(131, some 9), (127, some 5)], [(127, some 5), (132, some 10)], [(133, some 11)], [(6, none), (134, some 12)], [(8, none), (134, some 12)], [(136, some 14), (134, some 12)], [(135, some 13), (137, some 15), (134, some 12)], [(138, some 16), (134, some 12)], [(139, some 17), (134, some 12)], [(140, some 18), (134, some 12)], [(6, none), (141, some 19)], [(8, none), (141, some 19)], [(143, some 21), (141, some 19)], [(142, some 20), (144, some 22), (141, some 19)], [(145, some 23), (141, some 19)], [(141, some 19), (146, some 24), (134, some 12)], [(134, some 12), (147, some 25)], [(148, some 26)]] d540 z540 (by kernel_rfl) ⟨Ov rfl rfl fun _ _ T ⟨k6, _⟩ => ex_move (k6.trans s600_6),
             Ov rfl rfl fun _ _ T ⟨k8, _⟩ => ex_fieldAddr (k8.trans s601_8) (fa_139_1 _ _ _),
             Ov rfl rfl fun _ _ T ⟨k123, _⟩ => ex_load k123 (Try.isAgg3 _) (cell_of (Ext.keep T.ext t52.here_604) rfl),
             Ov rfl rfl fun _ _ T ⟨k122, k124, _⟩ => ex_ixa Try.underlying52 (Try.sizeOf4 _) k122 (own_eqA f32_605 (by omega)) k124 (by omega) (by omega),
             Ov rfl rfl fun _ _ T ⟨k125, _⟩ => ex_load k125 (Try.isAgg4 _) (own_at (own_keep f32_605 T.ext) (own_eqA f32_605 (by omega)) bov1_1 (at_some' (d := false) ((semT_len _ _ _).symm) (by omega) (by omega)) 0 rfl),
             Ov rfl rfl fun _ _ T ⟨k126, _⟩ => ex_move k126,
             Og rfl rfl rfl fun _ _ T ⟨k6, k127, _⟩ => ⟨k127, fun hcQ => ex_move (k6.trans s600_6)⟩,
             Og rfl rfl rfl fun _ _ T ⟨k8, k127, _⟩ => ⟨k127, fun hcQ => ex_fieldAddr (k8.trans s601_8) (fa_139_2 _ _ _)⟩,
             Og rfl rfl rfl fun _ _ T ⟨k129, k127, _⟩ => ⟨k127, fun hcQ => ex_load (k129.trans (if_pos hcQ)) (Try.isAgg3 _) (cell_of (Ext.keep T.ext t52.here_604) rfl)⟩,
             Og rfl rfl rfl fun _ _ T ⟨k128, k130, k127, _⟩ => ⟨k127, fun hcQ => by have hdQ := hcQ; (try simp only [Bool.and_eq_true, Bool.or_eq_false_iff, Bool.not_eq_true', Bool.not_eq_false', beq_iff_eq, decide_eq_true_eq, decide_eq_false_iff_not] at hdQ); exact ex_ixa Try.underlying52 (Try.sizeOf4 _) (k128.trans (if_pos hcQ)) (own_eqA f32_605 (by omega)) (k130.trans (if_pos hcQ)) (by omega) (by omega)⟩,
             Og rfl rfl rfl fun _ _ T ⟨k131, k127, _⟩ => ⟨k127, fun hcQ => by have hdQ := hcQ; (try simp only [Bool.and_eq_true, Bool.or_eq_false_iff, Bool.not_eq_true', Bool.not_eq_false', beq_iff_eq, decide_eq_true_eq, decide_eq_false_iff_not] at hdQ); exact ex_load (k131.trans (if_pos hcQ)) (Try.isAgg4 _) (own_at (own_keep f32_605 T.ext) (own_eqA f32_605 (by omega)) bov1_1 (at_some' (d := false) ((semT_len _ _ _).symm) (by omega) (by omega)) 0 rfl)⟩,
             Ov rfl rfl fun _ _ T ⟨k127, k132, _⟩ => ex_pick_and k127 k132 rfl,
             Ov rfl rfl fun _ _ T ⟨k133, _⟩ => ex_move k133,
             Oy rfl rfl rfl fun _ _ T ⟨k6, k134, _⟩ => ⟨(k134.trans (by rw [y550])), ex_move (k6.trans s600_6)⟩,
             Oy rfl rfl rfl fun _ _ T ⟨k8, k134, _⟩ => ⟨(k134.trans (by rw [y550])), ex_fieldAddr (k8.trans s601_8) (fa_139_1 _ _ _)⟩,
             Oy rfl rfl rfl fun _ _ T ⟨k136, k134, _⟩ => ⟨(k134.trans (by rw [y550])), ex_load k136 (Try.isAgg3 _) (cell_of (Ext.keep T.ext t52.here_604) rfl)⟩,
             Oy rfl rfl rfl fun _ _ T ⟨k135, k137, k134, _⟩ => ⟨(k134.trans (by rw [y550])), ex_ixa Try.underlying52 (Try.sizeOf4 _) k135 (own_eqA f32_605 (by omega)) k137 (by omega) (by omega)⟩,
             Oy rfl rfl rfl fun _ _ T ⟨k138, k134, _⟩ => ⟨(k134.trans (by rw [y550])), ex_load k138 (Try.isAgg4 _) (own_at (own_keep f32_605 T.ext) (own_eqA f32_605 (by omega)) bov1_1 (at_some' (d := false) ((semT_len _ _ _).symm) (by omega) (by omega)) 0 rfl)⟩,
             Oy rfl rfl rfl fun _ _ T ⟨k139, k134, _⟩ => ⟨(k134.trans (by rw [y550])), ex_not k139⟩,
             Oy rfl rfl rfl fun _ _ T ⟨k140, k134, _⟩ => ⟨(k134.trans (by rw [y550])), ex_move k140⟩,
             Og rfl rfl rfl fun _ _ T ⟨k6, k141, _⟩ => ⟨k141, fun hcQ => ex_move (k6.trans s600_6)⟩,
             Og rfl rfl rfl fun _ _ T ⟨k8, k141, _⟩ => ⟨k141, fun hcQ => ex_fieldAddr (k8.trans s601_8) (fa_139_3 _ _ _)⟩,
             Og rfl rfl rfl fun _ _ T ⟨k143, k141, _⟩ => ⟨k141, fun hcQ => ex_load (k143.trans (if_pos hcQ)) (Try.isAgg3 _) (cell_of (Ext.keep T.ext t52.here_604) rfl)⟩,
             Og rfl rfl rfl fun _ _ T ⟨k142, k144, k141, _⟩ => ⟨k141, fun hcQ => by have hdQ := hcQ; (try simp only [Bool.and_eq_true, Bool.or_eq_false_iff, Bool.not_eq_true', Bool.not_eq_false', beq_iff_eq, decide_eq_true_eq, decide_eq_false_iff_not] at hdQ); exact ex_ixa Try.underlying52 (Try.sizeOf4 _) (k142.trans (if_pos hcQ)) (own_eqA f32_605 (by omega)) (k144.trans (if_pos hcQ)) (by omega) (by omega)⟩,
             Og rfl rfl rfl fun _ _ T ⟨k145, k141, _⟩ => ⟨k141, fun hcQ => by have hdQ := hcQ; (try simp only [Bool.and_eq_true, Bool.or_eq_false_iff, Bool.not_eq_true', Bool.not_eq_false', beq_iff_eq, decide_eq_true_eq, decide_eq_false_iff_not] at hdQ); exact ex_load (k145.trans (if_pos hcQ)) (Try.isAgg4 _) (own_at (own_keep f32_605 T.ext) (own_eqA f32_605 (by omega)) bov1_1 (at_some' (d := false) ((semT_len _ _ _).symm) (by omega) (by omega)) 0 rfl)⟩,
             Oy rfl rfl rfl fun _ _ T ⟨k141, k146, k134, _⟩ => ⟨(k134.trans (by rw [y550])), ex_pick_and k141 k146 rfl⟩,
             Ov rfl rfl fun _ _ T ⟨k134, k147, _⟩ => ex_pick_f (k134.trans (by rw [y550])) k147,
             Ov rfl rfl fun _ _ T ⟨k148, _⟩ => ex_assign k148,
             trivial⟩ ?_
            intro a606 w606 d606 z606 t606 e606 q606
            repeat (with_reducible refine block_norm ?_)
            refine hK55 _ _ ?_
            have key : ∀ pa pb pc : Bool, (pa && pb) = false → ((!pa) && pc) = (if pa then pb else pc) := by decide
            have hval : ((!(at_ (semT L (hB x) k) false ((at_ L e0 (k : Int)).a))) && (at_ (semT L (hB x) k) false ((at_ L e0 (k : Int)).c))) = sem L (k : Int) (hB x) := by
             have hkk : (at_ L e0 (k : Int)).k = 9 := by omega
             rw [sem_k9 (i := (k : Int)) hR (by omega) (by omega) _ (by omega), ← ea, ← eb, ← ec]
             first | done | exact key (at_ (semT L (hB x) k) false ((at_ L e0 (k : Int)).a)) (at_ (semT L (hB x) k) false ((at_ L e0 (k : Int)).b)) (at_ (semT L (hB x) k) false ((at_ L e0 (k : Int)).c)) y550
            refine seq_begin ?_
            refine sp z606 rfl rfl (ex_move ((q606 6 rfl).trans s600_6)) ?_; intro a607 u607 z607
            refine sp z607 rfl rfl (ex_move ((u607.past 9 rfl).trans e606.2.2.2.2.2.2.2.2.2.2.2.2.2.2.2.2.2.2.2.2.2.2.2.2.2.2.2.1)) ?_; intro a608 u608 z608
            refine snew (mk := fun bQ => .slice (some ⟨bQ, 0, none⟩) 1 1) z608 rfl rfl (exl_buildSlice (cons_parts (u608.here _ rfl) nil_parts) (bs_52_1_0B ((!(at_ (semT L (hB x) k) false ((at_ L e0 (k : Int)).a))) && (at_ (semT L (hB x) k) false ((at_ L e0 (k : Int)).c))) _)) ?_; intro b609 w609 a609 t609 g609 hb609 u609 z609
            have hb1_611 := (Ext.keep t606 (Ext.keep t540 (Ext.keep t449 hb1_395)))
            have n610_b1_b609 := ne_lt (lt_of hb1_611) g609
            have ho6_613 := (own_keep (own_keep (own_keep ho6_396 t449) t540) t606)
            have no612 := no_new ho6_613 g609
            have f32_615 := (own_keep f32_605 t606)
            have no614 := no_new f32_615 g609
            have t52.here_617 := (Ext.keep t606 t52.here_604)
            have n616_b44_b609 := ne_lt (lt_of t52.here_617) g609
            have x619 := (Touch.trans x541 (Ext.touch t606))
            have yb609_618 := Nat.le_trans (Touch.size x619) g609
            have f32_621 := (own_keep f32_615 t609)
            refine sapp (m := 1) (news := [.bool ((!(at_ (semT L (hB x) k) false ((at_ L e0 (k : Int)).a))) && (at_ (semT L (hB x) k) false ((at_ L e0 (k : Int)).c)))]) z609 rfl el_52 f32_621 ((u609.past 149 rfl).trans ((u608.past 149 rfl).trans (u607.here _ rfl))) (u609.here _ rfl) rfl (news_of hb609) rfl (by omega) (by omega) ?_; intro A620 cp620 w620 a620 t620 u620 z620
            have x623 := (Touch.trans x619 (Ext.touch t609))
            have hb1_625 := (Ext.keep t609 hb1_611)
            have no624 := App.no t620 (lt_of hb1_625) (fun (jQ : Nat) hQ (eQ : jQ = b1) => (fun (eQ : some b1 = _) => hno_b1 _ eQ.symm rfl) (by rw [← eQ]; exact hQ.symm))
            have ho6_627 := (own_keep ho6_613 t609)
            have no626 := App.nor t620 (fun jQ hQ => own_lt ho6_627 hQ) hnor_0
            have t52.here_629 := (Ext.keep t609 t52.here_617)
            have no628 := App.no t620 (lt_of t52.here_629) (fun (jQ : Nat) hQ (eQ : jQ = b44) => (fun (eQ : some b44 = _) => no49 _ eQ.symm rfl) (by rw [← eQ]; exact hQ.symm))
            have no630 := App.no t620 (lt_of hb609) (fun (jQ : Nat) hQ (eQ : jQ = b609) => (fun (eQ : some b609 = _) => no614 _ eQ.symm rfl) (by rw [← eQ]; exact hQ.symm))
            have no631 := App.base t620 (Touch.size x623) hbase
            refine sp z620 rfl rfl (ex_assign (u620.here _ rfl)) ?_; intro a632 u632 z632
            have d633 := (u632.defs.trans (u620.defs.trans (u609.defs.trans (u608.defs.trans (u607.defs.trans d606)))))
            refine seq_end ?_
            repeat (with_reducible refine block_norm ?_)
            refine hK37 _ _ ?_
            have p635 := fr4 q449 q540 q606 u607.past
            have p636 := fr4 u608.past u609.past u620.past u632.past
            have s634_7 := ((p636 7 rfl).trans ((p635 7 rfl).trans s394_7))
            refine rg mixed 154 [.eq (.int .i64 (k : Int)), .eq (.int .i64 ((k : Int) + 1)), .eq (.int .i64 ((k : Int) + 1))] [[(7, none)], [(17, some 0)], [(18, some 1)]] d633 z632 (by kernel_rfl) ⟨Ov rfl rfl fun _ _ T ⟨k7, _⟩ => ex_move (k7.trans s634_7), Ov rfl rfl fun _ _ T ⟨k17, _⟩ => ex_add64 k17 rfl (by omega), Ov rfl rfl fun _ _ T ⟨k18, _⟩ => ex_assign k18, trivial⟩ ?_
            intro a637 w637 d637 z637 t637 e637 q637
            repeat (with_reducible refine block_norm ?_)
            have s638_0 := ((q637 0 rfl).trans ((p636 0 rfl).trans ((p635 0 rfl).trans s389_0)))
            have s639_3 := ((q637 3 rfl).trans ((p636 3 rfl).trans ((p635 3 rfl).trans s390_3)))
            have s640_4 := ((q637 4 rfl).trans ((p636 4 rfl).trans ((p635 4 rfl).trans s391_4)))
            have s641_5 := ((q637 5 rfl).trans ((p636 5 rfl).trans ((p635 5 rfl).trans s392_5)))
            have s642_6 : a632.eval (.tmp 6) = .slice A620 (k + 1) cp620 := (u632.here _ rfl)
            have s643_6 := ((q637 6 rfl).trans s642_6)
            have s644_7 : a637.eval (.tmp 7) = .int .i64 ((k : Int) + 1) := e637.2.2.1
            have x645 := (Touch.trans (Touch.via x623 t620.touch (fun jQ hQ => Or.inr (hbase jQ hQ.symm))) (Ext.touch t637))
            have hb1_646 := (Ext.keep t637 (Touch.keep t620.touch hb1_625 (fun (eQ : some b1 = _) => hno_b1 _ eQ.symm rfl)))
            have ho6_647 := (own_keep (own_touch ho6_627 t620.touch (fun jQ hQ eQ => (nor_symm hnor_0) jQ hQ eQ.symm)) t637)
            have t620.own_648 := (own_keep t620.own t637)
            refine then_norm ?_
            refine ⟨_, ⟨k + 1, A620, cp620, rfl, d637, z637, s638_0, s639_3, s640_4, s641_5, s643_6, (s644_7.trans (by first | rfl | (congr 1; omega) | (simp; omega) | simp)), x645, hb1_646, ho6_647, (by rw [semT_succ, ← flat_push, ← hval]; exact t620.own_648), by omega, no631, no624, no626⟩, ?_⟩; (show _ < _); rw [hmu15]; exact by omega
          ·have y542 := decide_eq_false c542
           have s649_120 : a540.eval (.tmp 120) = .bool (decide (((at_ L e0 (k : Int)).k) = 9)) := e540.2.1
           refine wp_cond_false (s649_120.trans (by rw [y542])) ?_
           refine wp_skip ?_
           repeat (with_reducible refine block_norm ?_)
           refine hK55 _ _ ?_
           have hval : false = sem L (k : Int) (hB x) := by
            rw [sem_k0 (i := (k : Int)) hR (by omega) (by omega) _ (by omega)]
           refine seq_begin ?_
           refine sp z540 rfl rfl (ex_move ((q540 6 rfl).trans ((q449 6 rfl).trans s393_6))) ?_; intro a650 u650 z650
           have p652 := fr4 q59 q61 q120 q171
           have p653 := fr4 q224 q283 q336 q388
           refine sp z650 rfl rfl (ex_move ((u650.past 9 rfl).trans ((q540 9 rfl).trans ((q449 9 rfl).trans ((p653 9 rfl).trans ((p652 9 rfl).trans e54.1)))))) ?_; intro a651 u651 z651
           refine snew (mk := fun bQ => .slice (some ⟨bQ, 0, none⟩) 1 1) z651 rfl rfl (exl_buildSlice (cons_parts (u651.here _ rfl) nil_parts) (bs_52_1_0B false _)) ?_; intro b654 w654 a654 t654 g654 hb654 u654 z654
           have hb1_656 := (Ext.keep t540 (Ext.keep t449 hb1_395))
           have n655_b1_b654 := ne_lt (lt_of hb1_656) g654
           have ho6_658 := (own_keep (own_keep ho6_396 t449) t540)
           have no657 := no_new ho6_658 g654
           have f32_660 := (own_keep (own_keep f32_397 t449) t540)
           have no659 := no_new f32_660 g654
           have t52.here_662 := (Ext.keep t540 t52.here_450)
           have n661_b44_b654 := ne_lt (lt_of t52.here_662) g654
           have yb654_663 := Nat.le_trans (Touch.size x541) g654
           have f32_665 := (own_keep f32_660 t654)
           refine sapp (m := 1) (news := [.bool false]) z654 rfl el_52 f32_665 ((u654.past 149 rfl).trans ((u651.past 149 rfl).trans (u650.here _ rfl))) (u654.here _ rfl) rfl (news_of hb654) rfl (by omega) (by omega) ?_; intro A664 cp664 w664 a664 t664 u664 z664
           have x667 := (Touch.trans x541 (Ext.touch t654))
           have hb1_669 := (Ext.keep t654 hb1_656)
           have no668 := App.no t664 (lt_of hb1_669) (fun (jQ : Nat) hQ (eQ : jQ = b1) => (fun (eQ : some b1 = _) => hno_b1 _ eQ.symm rfl) (by rw [← eQ]; exact hQ.symm))
           have ho6_671 := (own_keep ho6_658 t654)
           have no670 := App.nor t664 (fun jQ hQ => own_lt ho6_671 hQ) hnor_0
           have t52.here_673 := (Ext.keep t654 t52.here_662)
           have no672 := App.no t664 (lt_of t52.here_673) (fun (jQ : Nat) hQ (eQ : jQ = b44) => (fun (eQ : some b44 = _) => no49 _ eQ.symm rfl) (by rw [← eQ]; exact hQ.symm))
           have no674 := App.no t664 (lt_of hb654) (fun (jQ : Nat) hQ (eQ : jQ = b654) => (fun (eQ : some b654 = _) => no659 _ eQ.symm rfl) (by rw [← eQ]; exact hQ.symm))
           have no675 := App.base t664 (Touch.size x667) hbase
           refine sp z664 rfl rfl (ex_assign (u664.here _ rfl)) ?_; intro a676 u676 z676
           have d677 := (u676.defs.trans (u664.defs.trans (u654.defs.trans (u651.defs.trans (u650.defs.trans d540)))))
           refine seq_end ?_
           repeat (with_reducible refine block_norm ?_)
           refine hK37 _ _ ?_
           have p679 := fr4 q449 q540 u650.past u651.past
           have s678_7 := ((u676.past 7 rfl).trans ((u664.past 7 rfl).trans ((u654.past 7 rfl).trans ((p679 7 rfl).trans s394_7))))
           refine rg mixed 154 [.eq (.int .i64 (k : Int)), .eq (.int .i64 ((k : Int) + 1)), .eq (.int .i64 ((k : Int) + 1))] [[(7, none)], [(17, some 0)], [(18, some 1)]] d677 z676 (by kernel_rfl) ⟨Ov rfl rfl fun _ _ T ⟨k7, _⟩ => ex_move (k7.trans s678_7), Ov rfl rfl fun _ _ T ⟨k17, _⟩ => ex_add64 k17 rfl (by omega), Ov rfl rfl fun _ _ T ⟨k18, _⟩ => ex_assign k18, trivial⟩ ?_
           intro a680 w680 d680 z680 t680 e680 q680
           repeat (with_reducible refine block_norm ?_)
           have p682 := fr4 u654.past u664.past u676.past q680
           have s681_0 := ((p682 0 rfl).trans ((p679 0 rfl).trans s389_0))
           have s683_3 := ((p682 3 rfl).trans ((p679 3 rfl).trans s390_3))
           have s684_4 := ((p682 4 rfl).trans ((p679 4 rfl).trans s391_4))
           have s685_5 := ((p682 5 rfl).trans ((p679 5 rfl).trans s392_5))
           have s686_6 : a676.eval (.tmp 6) = .slice A664 (k + 1) cp664 := (u676.here _ rfl)
           have s687_6 := ((q680 6 rfl).trans s686_6)
           have s688_7 : a680.eval (.tmp 7) = .int .i64 ((k : Int) + 1) := e680.2.2.1
           have x689 := (Touch.trans (Touch.via x667 t664.touch (fun jQ hQ => Or.inr (hbase jQ hQ.symm))) (Ext.touch t680))
           have hb1_690 := (Ext.keep t680 (Touch.keep t664.touch hb1_669 (fun (eQ : some b1 = _) => hno_b1 _ eQ.symm rfl)))
           have ho6_691 := (own_keep (own_touch ho6_671 t664.touch (fun jQ hQ eQ => (nor_symm hnor_0) jQ hQ eQ.symm)) t680)
           have t664.own_692 := (own_keep t664.own t680)
           refine then_norm ?_
           refine ⟨_, ⟨k + 1, A664, cp664, rfl, d680, z680, s681_0, s683_3, s684_4, s685_5, s687_6, (s688_7.trans (by first | rfl | (congr 1; omega) | (simp; omega) | simp)), x689, hb1_690, ho6_691, (by rw [semT_succ, ← flat_push, ← hval]; exact t664.own_692), by omega, no675, no668, no670⟩, ?_⟩; (show _ < _); rw [hmu15]; exact by omega
 ·have y35 := decide_eq_false c35
  have s693_16 : a34.eval (.tmp 16) = .bool (decide ((k : Int) < (n : Int))) := e34.2.2.2.1
  refine wp_cond_false (s693_16.trans (by rw [y35])) ?_
  refine wp_exit ?_
  repeat (first | (with_reducible refine then_exit ?_) | (with_reducible refine block_here ?_) | (with_reducible refine block_past rfl ?_))
  refine hK13 _ _ ?_
  have s694_6 := ((q34 6 rfl).trans s15_6)
  refine rgs mixed 154 [.eq (.slice A1 k c1), .eq (.slice A1 k c1)] [[(6, none)], [(153, some 0)]] d34 z34 (by kernel_rfl) ⟨Ov rfl rfl fun _ _ T ⟨k6, _⟩ => ex_move (k6.trans s694_6), Ov rfl rfl fun _ _ T ⟨k153, _⟩ => ex_assign k153, trivial⟩ ?_
  intro a695 w695 d695 z695 t695 e695 q695
  refine wp_ret ?_
  have s696_4 : a695.eval (.tmp 4) = .slice A1 k c1 := e695.2.1
  repeat (first | (with_reducible refine then_ret ?_) | (with_reducible refine block_ret ?_))
  refine retl (rs := [.tmp 4]) Try.results73 ⟨s696_4, trivial⟩ d695 ?_
  have hkk : k = n := by omega
  subst hkk
  have x697 := (Touch.trans (Touch.trans x15 (Ext.touch t34)) (Ext.touch t695))
  have f32_698 := (own_keep (own_keep f32 t34) t695)
  exact ⟨_, _, rfl, f32_698, (x697).ext, hbase⟩

theorem c_In06 {w : World} {Q : Option Addr} {L : List Ex} {n cq : Nat} {x : H5} (HR : Reads w (.slice Q n cq) 6 (flat exv L) n) (hn : n = L.length) (hc : n ≤ cq) (hR : RightL L) (hL : n ≤ 60) (H : HdrOk x.1 x.2.1 x.2.2.1 x.2.2.2.1 x.2.2.2.2) : Calls Try.prog 73 #[.slice Q n cq, .agg #[.int .u32 x.1, .int .u32 x.2.1, .int .u8 x.2.2.1, .int .u16 x.2.2.2.1, .int .u16 x.2.2.2.2]] w fun e w' => ∃ A' c', e = .returned (.slice A' n c') ∧ w'.ownsRow 0 4 1 (.slice A' n c') n (flat bov1 (semT L (hB x) n)) ∧ Ext w w' ∧ ∀ j, (Value.slice A' n c').ownBlock = some j → w.heap.size ≤ j := c_In06_ n HR hn hc hR hL H (Nat.le_refl _)
end Go.Proofs.Yticodddigaiipaa
