/-
 Contracts of functions of the given program, each proved by a walk through its code: what a call answers, and what it leaves of memory; conditions: those ahead of each theorem's colon.
-/
import Derived.Test.YticodddigaiipaaSatS3
set_option linter.unusedVariables false
set_option linter.unusedSimpArgs false
namespace Go.Proofs.Yticodddigaiipaa
open Go.RowKit
theorem bs_47_1_0Ii64 (x0 : Int) (w : World) : (Instr.buildSlice 47 1 #[(0, .int .i64 x0)]).run Try.prog w = .ok (.slice (some ⟨w.heap.size, 0, none⟩) 1 1) (w.alloc (.cells #[.int .i64 x0] 3)) := by kernel_rfl
theorem el_47 : ElemOk Try.prog 47 3 1 8 := elemOk (z := .int .i64 0) Try.underlying47 (by kernel_rfl) rfl (by decide)

theorem vars_yes {L : List Ex} {i : Nat} (h : askd L (i : Int) = true) : varsL L (i + 1) = varsL L i ++ [(i : Int)] := by simp [varsL, h]
theorem vars_no {L : List Ex} {i : Nat} (h : askd L (i : Int) = false) : varsL L (i + 1) = varsL L i := by simp [varsL, h]
theorem vars_len (L : List Ex) : ∀ i, (varsL L i).length ≤ i
 | 0 => Nat.le_refl _
 | i + 1 => by
  have := vars_len L i
  by_cases h : askd L (i : Int) = true
  ·rw [vars_yes h]; simp; omega
  ·rw [vars_no (by simpa using h)]; omega
theorem askd_hit {L : List Ex} {i k : Int} (h0 : 0 ≤ k) (h1 : k < L.length) (h2 : (at_ L e0 k).k = 2) (h3 : (at_ L e0 k).v = i) : askd L i = true := by
 unfold askd
 exact List.any_eq_true.2 ⟨_, at_mem (d := e0) h0 h1, by simp [h2, h3]⟩

set_option maxRecDepth 100000 in
set_option maxHeartbeats 4000000 in
theorem c_Vars08 {w : World} {Q : Option Addr} {L : List Ex} {cq : Nat} (HR : Reads w (.slice Q L.length cq) 6 (flat exv L) L.length)(hL : L.length ≤ 9223372036854775807)  : Calls Try.prog 65 #[.slice Q L.length cq] w fun e w' => ∃ A c, e = .returned (.slice A (varsL L 104).length c) ∧ w'.ownsRow 0 3 1 (.slice A (varsL L 104).length c) (varsL L 104).length (flat inv1 (varsL L 104)) ∧ Ext w w' ∧ ∀ j, (Value.slice A (varsL L 104).length c).ownBlock = some j → w.heap.size ≤ j := by
 refine enter 36 Try.ntmps65 Try.func65 rfl (Nat.le_of_ble_eq_true rfl) fun a0 d0 z0 hargs => ?_
 have s0_0 : a0.eval (.tmp 0) = .slice Q L.length cq := hargs 0 _ rfl
 have x0 := Touch.refl NoF w
 refine rgs mixed 36 [.eq (.slice none 0 0)] [[]] d0 z0 (by kernel_rfl) ⟨Ov rfl rfl fun _ _ T _ => ex_assign rfl, trivial⟩ ?_
 intro a1 w1 d1 z1 t1 e1 q1
 refine rgs mixed 36 [.eq (.slice none 0 0)] [[]] d1 z1 (by kernel_rfl) ⟨Ov rfl rfl fun _ _ T _ => ex_assign rfl, trivial⟩ ?_
 intro a2 w2 d2 z2 t2 e2 q2
 refine wp_seq_k fun K3 hK3 => ?_
 refine rgs mixed 36 [.eq (.int .i64 0)] [[]] d2 z2 (by kernel_rfl) ⟨Ov rfl rfl fun _ _ T _ => ex_assign rfl, trivial⟩ ?_
 intro a4 w4 d4 z4 t4 e4 q4
 refine wp_block ?_
 have s6_0 := ((q4 0 rfl).trans ((q2 0 rfl).trans ((q1 0 rfl).trans s0_0)))
 have s7_2 : a1.eval (.tmp 2) = .slice none 0 0 := e1.1
 have s8_2 := ((q4 2 rfl).trans ((q2 2 rfl).trans s7_2))
 have s9_3 : a2.eval (.tmp 3) = .slice none 0 0 := e2.1
 have s10_3 := ((q4 3 rfl).trans s9_3)
 have s11_4 : a4.eval (.tmp 4) = .int .i64 0 := e4.1
 have x12 := (Touch.trans (Touch.trans (Touch.trans x0 (Ext.touch t1)) (Ext.touch t2)) (Ext.touch t4))
 refine wp_loopg (σ := Nat) (fun nQ aQ wQ => ∃ i : Nat, ∃ Qv : Option Addr, ∃ cv : Nat, nQ = (104 - i) ∧
  aQ.defers = [] ∧
  aQ.tmps.size = 36 ∧
  aQ.eval (.tmp 0) = .slice Q L.length cq ∧
  aQ.eval (.tmp 2) = .slice none 0 0 ∧
  aQ.eval (.tmp 3) = .slice Qv ((varsL L i).length) cv ∧
  aQ.eval (.tmp 4) = .int .i64 (i : Int) ∧
  Touch (NoF) w wQ ∧
  wQ.ownsRow 0 3 1 (.slice Qv (varsL L i).length cv) (varsL L i).length (flat inv1 (varsL L i)) ∧
  (i ≤ 104) ∧
  (∀ j, (Value.slice Qv (varsL L i).length cv).ownBlock = some j → w.heap.size ≤ j)) (fun nQ => nQ) _ ⟨0, none, 0, rfl, d4, z4, s6_0, s8_2, (s10_3.trans (by first | rfl | (rw [vars_yes hask, List.length_append]; rfl) | (rw [vars_no hask]) | (congr 1; omega) | (simp; omega) | simp)), (s11_4.trans (by first | rfl | (rw [vars_yes hask, List.length_append]; rfl) | (rw [vars_no hask]) | (congr 1; omega) | (simp; omega) | simp)), x12, (World.ownsRow_nil _ 0 3 1), by omega, by simp [Value.ownBlock]⟩ ?_
 rintro nQ5 a5 w5 ⟨i, Qv, cv, hmu5, d5, z5, s5_0, s5_2, s5_3, s5_4, x5, f13, hi, hbase⟩
 have hvl := vars_len L i
 refine wp_seq_k fun K14 hK14 => ?_
 refine rgs mixed 36 [.eq (.int .i64 (i : Int)), .eq (.bool (decide ((i : Int) < 104)))] [[(4, none)], [(6, some 0)]] d5 z5 (by kernel_rfl) ⟨Ov rfl rfl fun _ _ T ⟨k4, _⟩ => ex_move (k4.trans s5_4), Ov rfl rfl fun _ _ T ⟨k6, _⟩ => ex_lss k6 rfl, trivial⟩ ?_
 intro a15 w15 d15 z15 t15 e15 q15
 by_cases c16 : (i : Int) < 104
 ·have y16 := decide_eq_true c16
  have s17_7 : a15.eval (.tmp 7) = .bool (decide ((i : Int) < 104)) := e15.2.1
  refine wp_cond_true (s17_7.trans (by rw [y16])) ?_
  refine wp_skip ?_
  repeat (with_reducible refine block_norm ?_)
  refine hK14 _ _ ?_
  refine wp_seq_k fun K18 hK18 => ?_
  refine wp_block ?_
  refine rgs mixed 36 [.eq (.int .i64 0)] [[]] d15 z15 (by kernel_rfl) ⟨Ov rfl rfl fun _ _ T _ => ex_assign rfl, trivial⟩ ?_
  intro a19 w19 d19 z19 t19 e19 q19
  refine wp_block ?_
  have s21_0 := ((q19 0 rfl).trans ((q15 0 rfl).trans s5_0))
  have s22_2 := ((q19 2 rfl).trans ((q15 2 rfl).trans s5_2))
  have s23_3 := ((q19 3 rfl).trans ((q15 3 rfl).trans s5_3))
  have s24_4 := ((q19 4 rfl).trans ((q15 4 rfl).trans s5_4))
  have s25_5 : a19.eval (.tmp 5) = .int .i64 0 := e19.1
  have s26_6 : a15.eval (.tmp 6) = .int .i64 (i : Int) := e15.1
  have s27_6 := ((q19 6 rfl).trans s26_6)
  have s28_7 := ((q19 7 rfl).trans s17_7)
  have x29 := (Touch.trans (Touch.trans x5 (Ext.touch t15)) (Ext.touch t19))
  have f13_30 := (own_keep (own_keep f13 t15) t19)
  refine wp_loopg (σ := Nat) (fun nQ aQ wQ => ∃ k : Nat, nQ = (L.length - k) ∧
   aQ.defers = [] ∧
   aQ.tmps.size = 36 ∧
   aQ.eval (.tmp 0) = .slice Q L.length cq ∧
   aQ.eval (.tmp 2) = .slice none 0 0 ∧
   aQ.eval (.tmp 3) = .slice Qv ((varsL L i).length) cv ∧
   aQ.eval (.tmp 4) = .int .i64 (i : Int) ∧
   aQ.eval (.tmp 5) = .int .i64 (k : Int) ∧
   aQ.eval (.tmp 6) = .int .i64 (i : Int) ∧
   aQ.eval (.tmp 7) = .bool (decide ((i : Int) < 104)) ∧
   Touch (NoF) w wQ ∧
   wQ.ownsRow 0 3 1 (.slice Qv ((varsL L i).length) cv) ((varsL L i).length) (flat inv1 (varsL L i)) ∧
   (k ≤ L.length) ∧
   ((L.take k).any (fun x => decide (x.k = 2) && decide (x.v = (i : Int))) = false)) (fun nQ => nQ) _ ⟨0, rfl, d19, z19, s21_0, s22_2, (s23_3.trans (by first | rfl | (congr 1; omega) | (simp; omega) | simp)), s24_4, (s25_5.trans (by first | rfl | (congr 1; omega) | (simp; omega) | simp)), s27_6, s28_7, x29, f13_30, Nat.zero_le _, rfl⟩ ?_
  rintro nQ20 a20 w20 ⟨k, hmu20, d20, z20, s20_0, s20_2, s20_3, s20_4, s20_5, s20_6, s20_7, x20, f13_31, hk, hno⟩
  refine wp_seq_k fun K32 hK32 => ?_
  refine rgs mixed 36 [.eq (.int .i64 (k : Int)), .eq (.slice Q L.length cq), .eq (.int .i64 (L.length : Int)), .eq (.bool (decide ((k : Int) < (L.length : Int))))] [[(5, none)], [(0, none)], [(11, some 1)], [(10, some 0), (12, some 2)]] d20 z20 (by kernel_rfl) ⟨Ov rfl rfl fun _ _ T ⟨k5, _⟩ => ex_move (k5.trans s20_5),
   Ov rfl rfl fun _ _ T ⟨k0, _⟩ => ex_move (k0.trans s20_0),
   Ov rfl rfl fun _ _ T ⟨k11, _⟩ => ex_len (cons_ops k11 nil_ops) Try.underlying45,
   Ov rfl rfl fun _ _ T ⟨k10, k12, _⟩ => ex_lss k10 k12,
   trivial⟩ ?_
  intro a33 w33 d33 z33 t33 e33 q33
  by_cases c34 : (k : Int) < (L.length : Int)
  ·have y34 := decide_eq_true c34
   have s35_13 : a33.eval (.tmp 13) = .bool (decide ((k : Int) < (L.length : Int))) := e33.2.2.2.1
   refine wp_cond_true (s35_13.trans (by rw [y34])) ?_
   refine wp_skip ?_
   repeat (with_reducible refine block_norm ?_)
   refine hK32 _ _ ?_
   refine wp_seq_k fun K36 hK36 => ?_
   refine wp_block ?_
   have s37_0 := ((q33 0 rfl).trans s20_0)
   have s38_5 := ((q33 5 rfl).trans s20_5)
   have x40 := (Touch.trans x20 (Ext.touch t33))
   have rd39 := Reads.touch HR x40 (by decide) (reads_noF _ _)
   have s41_4 := ((q33 4 rfl).trans s20_4)
   refine rgs mixed 36 [.eq (.slice Q L.length cq), .eq (.int .i64 (k : Int)), .eq (.pointer (some ⟨(rowB Q), rowO Q + Int.toNat (k : Int) * 6, none⟩)), .eq (.pointer (some ⟨(rowB Q), rowO Q + Int.toNat (k : Int) * 6, none⟩)), .eq (.int .i64 ((at_ L e0 (k : Int)).k)), .eq (.bool (decide (((at_ L e0 (k : Int)).k) = 2))), .eq (.bool (decide (((at_ L e0 (k : Int)).k) = 2))), .eq (if (decide (((at_ L e0 (k : Int)).k) = 2)) = true then .slice Q L.length cq else undef), .eq (if (decide (((at_ L e0 (k : Int)).k) = 2)) = true then .int .i64 (k : Int) else undef), .eq (if (decide (((at_ L e0 (k : Int)).k) = 2)) = true then .pointer (some ⟨(rowB Q), rowO Q + Int.toNat (k : Int) * 6, none⟩) else undef), .eq (if (decide (((at_ L e0 (k : Int)).k) = 2)) = true then .pointer (some ⟨(rowB Q), rowO Q + Int.toNat (k : Int) * 6 + 4, none⟩) else undef), .eq (if (decide (((at_ L e0 (k : Int)).k) = 2)) = true then .int .i64 ((at_ L e0 (k : Int)).v) else undef), .eq (if (decide (((at_ L e0 (k : Int)).k) = 2)) = true then .int .i64 (i : Int) else undef), .eq (if (decide (((at_ L e0 (k : Int)).k) = 2)) = true then .bool (decide (((at_ L e0 (k : Int)).v) = (i : Int))) else undef), .eq (.bool ((decide (((at_ L e0 (k : Int)).k) = 2)) && (decide (((at_ L e0 (k : Int)).v) = (i : Int)))))] [[(0, none)], [(5, none)], [(16, some 0), (17, some 1)], [(18, some 2)], [(19, some 3)], [(20, some 4)], [(21, some 5)], [(0, none), (22, some 6)], [(5, none), (22, some 6)], [(23, some 7), (24, some 8), (22, some 6)], [(25, some 9), (22, some 6)], [(26, some 10), (22, some 6)], [(4, none), (22, some 6)], [(27, some 11), (28, some 12), (22, some 6)], [(22, some 6), (29, some 13)]] d33 z33 (by kernel_rfl) ⟨Ov rfl rfl fun _ _ T ⟨k0, _⟩ => ex_move (k0.trans s37_0),
    Ov rfl rfl fun _ _ T ⟨k5, _⟩ => ex_move (k5.trans s38_5),
    Ov rfl rfl fun _ _ T ⟨k16, k17, _⟩ => ex_ixr Try.underlying45 (Try.sizeOf139 _) k16 (Reads.eqA rd39 (by omega)) k17 (by omega) (by omega),
    Ov rfl rfl fun _ _ T ⟨k18, _⟩ => ex_fieldAddr k18 (fa_139_0 _ _ _),
    Ov rfl rfl fun _ _ T ⟨k19, _⟩ => ex_load k19 (Try.isAgg3 _) (rd_at (Reads.keep rd39 T.ext) (Reads.eqA rd39 (by omega)) exv6 (at_some' (d := e0) (by rfl) (by omega) (by omega)) 0 rfl),
    Ov rfl rfl fun _ _ T ⟨k20, _⟩ => ex_eql k20 rfl,
    Ov rfl rfl fun _ _ T ⟨k21, _⟩ => ex_move k21,
    Og rfl rfl rfl fun _ _ T ⟨k0, k22, _⟩ => ⟨k22, fun hcQ => ex_move (k0.trans s37_0)⟩,
    Og rfl rfl rfl fun _ _ T ⟨k5, k22, _⟩ => ⟨k22, fun hcQ => ex_move (k5.trans s38_5)⟩,
    Og rfl rfl rfl fun _ _ T ⟨k23, k24, k22, _⟩ => ⟨k22, fun hcQ => by have hdQ := hcQ; (try simp only [Bool.and_eq_true, Bool.or_eq_false_iff, Bool.not_eq_true', Bool.not_eq_false', beq_iff_eq, decide_eq_true_eq, decide_eq_false_iff_not] at hdQ); exact ex_ixr Try.underlying45 (Try.sizeOf139 _) (k23.trans (if_pos hcQ)) (Reads.eqA rd39 (by omega)) (k24.trans (if_pos hcQ)) (by omega) (by omega)⟩,
    Og rfl rfl rfl fun _ _ T ⟨k25, k22, _⟩ => ⟨k22, fun hcQ => ex_fieldAddr (k25.trans (if_pos hcQ)) (fa_139_4 _ _ _)⟩,
    Og rfl rfl rfl fun _ _ T ⟨k26, k22, _⟩ => ⟨k22, fun hcQ => by have hdQ := hcQ; (try simp only [Bool.and_eq_true, Bool.or_eq_false_iff, Bool.not_eq_true', Bool.not_eq_false', beq_iff_eq, decide_eq_true_eq, decide_eq_false_iff_not] at hdQ); exact ex_load (k26.trans (if_pos hcQ)) (Try.isAgg3 _) (rd_at (Reads.keep rd39 T.ext) (Reads.eqA rd39 (by omega)) exv6 (at_some' (d := e0) (by rfl) (by omega) (by omega)) 4 rfl)⟩,
    Og rfl rfl rfl fun _ _ T ⟨k4, k22, _⟩ => ⟨k22, fun hcQ => ex_move (k4.trans s41_4)⟩,
    Og rfl rfl rfl fun _ _ T ⟨k27, k28, k22, _⟩ => ⟨k22, fun hcQ => ex_eql (k27.trans (if_pos hcQ)) (k28.trans (if_pos hcQ))⟩,
    Ov rfl rfl fun _ _ T ⟨k22, k29, _⟩ => ex_pick_and k22 k29 rfl,
    trivial⟩ ?_
   intro a42 w42 d42 z42 t42 e42 q42
   rcases Bool.eq_false_or_eq_true ((decide (((at_ L e0 (k : Int)).k) = 2)) && (decide (((at_ L e0 (k : Int)).v) = (i : Int)))) with y43 | y43
   ·have c43 := y43; try simp only [Bool.and_eq_true, Bool.or_eq_true, Bool.and_eq_false_iff, Bool.or_eq_false_iff, Bool.not_eq_true', Bool.not_eq_false', decide_eq_true_eq, decide_eq_false_iff_not] at c43
    have s44_30 : a42.eval (.tmp 30) = .bool ((decide (((at_ L e0 (k : Int)).k) = 2)) && (decide (((at_ L e0 (k : Int)).v) = (i : Int)))) := e42.2.2.2.2.2.2.2.2.2.2.2.2.2.2.1
    refine wp_cond_true (s44_30.trans (by rw [y43])) ?_
    refine wp_seq ?_
    refine seq_begin ?_
    refine sp z42 rfl rfl (ex_move ((q42 3 rfl).trans ((q33 3 rfl).trans s20_3))) ?_; intro a45 u45 z45
    refine sp z45 rfl rfl (ex_move ((u45.past 4 rfl).trans ((q42 4 rfl).trans s41_4))) ?_; intro a46 u46 z46
    refine snew (mk := fun bQ => .slice (some ⟨bQ, 0, none⟩) 1 1) z46 rfl rfl (exl_buildSlice (cons_parts (u46.here _ rfl) nil_parts) (bs_47_1_0Ii64 (i : Int) _)) ?_; intro b47 w47 a47 t47 g47 hb47 u47 z47
    have f13_49 := (own_keep (own_keep f13_31 t33) t42)
    have no48 := no_new f13_49 g47
    have x51 := (Touch.trans x40 (Ext.touch t42))
    have yb47_50 := Nat.le_trans (Touch.size x51) g47
    have f13_53 := (own_keep f13_49 t47)
    refine sapp (m := 1) (news := [.int .i64 (i : Int)]) z47 rfl el_47 f13_53 ((u47.past 31 rfl).trans ((u46.past 31 rfl).trans (u45.here _ rfl))) (u47.here _ rfl) rfl (news_of hb47) rfl (by omega) (by omega) ?_; intro A52 cp52 w52 a52 t52 u52 z52
    have x55 := (Touch.trans x51 (Ext.touch t47))
    have no56 := App.no t52 (lt_of hb47) (fun (jQ : Nat) hQ (eQ : jQ = b47) => (fun (eQ : some b47 = _) => no48 _ eQ.symm rfl) (by rw [← eQ]; exact hQ.symm))
    have no57 := App.base t52 (Touch.size x55) hbase
    refine sp z52 rfl rfl (ex_assign (u52.here _ rfl)) ?_; intro a58 u58 z58
    have d59 := (u58.defs.trans (u52.defs.trans (u47.defs.trans (u46.defs.trans (u45.defs.trans d42)))))
    refine seq_end ?_
    refine then_norm ?_
    refine wp_exit ?_
    repeat (first | (with_reducible refine then_exit ?_) | (with_reducible refine block_here ?_) | (with_reducible refine block_past rfl ?_))
    have hask : askd L (i : Int) = true := by have hcc := y43; simp only [Bool.and_eq_true, decide_eq_true_eq] at hcc; exact askd_hit (by omega) (by omega) hcc.1 hcc.2
    refine hK18 _ _ ?_
    have s60_4 := ((u58.past 4 rfl).trans ((u52.past 4 rfl).trans ((u47.past 4 rfl).trans ((u46.past 4 rfl).trans ((u45.past 4 rfl).trans ((q42 4 rfl).trans s41_4))))))
    refine rg mixed 36 [.eq (.int .i64 (i : Int)), .eq (.int .i64 ((i : Int) + 1)), .eq (.int .i64 ((i : Int) + 1))] [[(4, none)], [(8, some 0)], [(9, some 1)]] d59 z58 (by kernel_rfl) ⟨Ov rfl rfl fun _ _ T ⟨k4, _⟩ => ex_move (k4.trans s60_4), Ov rfl rfl fun _ _ T ⟨k8, _⟩ => ex_add64 k8 rfl (by omega), Ov rfl rfl fun _ _ T ⟨k9, _⟩ => ex_assign k9, trivial⟩ ?_
    intro a61 w61 d61 z61 t61 e61 q61
    repeat (with_reducible refine block_norm ?_)
    have p63 := fr4 u47.past u52.past u58.past q61
    have s62_0 := ((p63 0 rfl).trans ((u46.past 0 rfl).trans ((u45.past 0 rfl).trans ((q42 0 rfl).trans s37_0))))
    have p65 := fr4 q33 q42 u45.past u46.past
    have s64_2 := ((p63 2 rfl).trans ((p65 2 rfl).trans s20_2))
    have s66_3 : a58.eval (.tmp 3) = .slice A52 (((varsL L i).length) + 1) cp52 := (u58.here _ rfl)
    have s67_3 := ((q61 3 rfl).trans s66_3)
    have s68_4 : a61.eval (.tmp 4) = .int .i64 ((i : Int) + 1) := e61.2.2.1
    have x69 := (Touch.trans (Touch.via x55 t52.touch (fun jQ hQ => Or.inr (hbase jQ hQ.symm))) (Ext.touch t61))
    have t52.own_70 := (own_keep t52.own t61)
    refine then_norm ?_
    refine ⟨_, ⟨i + 1, A52, cp52, rfl, d61, z61, s62_0, s64_2, (s67_3.trans (by first | rfl | (rw [vars_yes hask, List.length_append]; rfl) | (rw [vars_no hask]) | (congr 1; omega) | (simp; omega) | simp)), (s68_4.trans (by first | rfl | (rw [vars_yes hask, List.length_append]; rfl) | (rw [vars_no hask]) | (congr 1; omega) | (simp; omega) | simp)), x69, (by rw [vars_yes hask, List.length_append, ← flat_push]; exact t52.own_70), by omega, (by rw [vars_yes hask, List.length_append]; exact no57)⟩, ?_⟩; (show _ < _); rw [hmu5]; exact by omega
   ·have c43 := y43; try simp only [Bool.and_eq_true, Bool.or_eq_true, Bool.and_eq_false_iff, Bool.or_eq_false_iff, Bool.not_eq_true', Bool.not_eq_false', decide_eq_true_eq, decide_eq_false_iff_not] at c43
    have s71_30 : a42.eval (.tmp 30) = .bool ((decide (((at_ L e0 (k : Int)).k) = 2)) && (decide (((at_ L e0 (k : Int)).v) = (i : Int)))) := e42.2.2.2.2.2.2.2.2.2.2.2.2.2.2.1
    refine wp_cond_false (s71_30.trans (by rw [y43])) ?_
    refine wp_skip ?_
    repeat (with_reducible refine block_norm ?_)
    refine hK36 _ _ ?_
    have s72_5 := ((q42 5 rfl).trans s38_5)
    refine rg mixed 36 [.eq (.int .i64 (k : Int)), .eq (.int .i64 ((k : Int) + 1)), .eq (.int .i64 ((k : Int) + 1))] [[(5, none)], [(14, some 0)], [(15, some 1)]] d42 z42 (by kernel_rfl) ⟨Ov rfl rfl fun _ _ T ⟨k5, _⟩ => ex_move (k5.trans s72_5), Ov rfl rfl fun _ _ T ⟨k14, _⟩ => ex_add64 k14 rfl (by omega), Ov rfl rfl fun _ _ T ⟨k15, _⟩ => ex_assign k15, trivial⟩ ?_
    intro a73 w73 d73 z73 t73 e73 q73
    repeat (with_reducible refine block_norm ?_)
    have hna : (L.take (k + 1)).any (fun x => decide (x.k = 2) && decide (x.v = (i : Int))) = false := by rw [any_take1 _ (by omega), hno]; simp_all
    have s74_0 := ((q73 0 rfl).trans ((q42 0 rfl).trans s37_0))
    have s75_2 := ((q73 2 rfl).trans ((q42 2 rfl).trans ((q33 2 rfl).trans s20_2)))
    have s76_3 := ((q73 3 rfl).trans ((q42 3 rfl).trans ((q33 3 rfl).trans s20_3)))
    have s77_4 := ((q73 4 rfl).trans ((q42 4 rfl).trans s41_4))
    have s78_5 : a73.eval (.tmp 5) = .int .i64 ((k : Int) + 1) := e73.2.2.1
    have s79_6 := ((q73 6 rfl).trans ((q42 6 rfl).trans ((q33 6 rfl).trans s20_6)))
    have s80_7 := ((q73 7 rfl).trans ((q42 7 rfl).trans ((q33 7 rfl).trans s20_7)))
    have x81 := (Touch.trans (Touch.trans x40 (Ext.touch t42)) (Ext.touch t73))
    have f13_82 := (own_keep (own_keep (own_keep f13_31 t33) t42) t73)
    refine then_norm ?_
    refine ⟨_, ⟨k + 1, rfl, d73, z73, s74_0, s75_2, s76_3, s77_4, (s78_5.trans (by first | rfl | (congr 1; omega) | (simp; omega) | simp)), s79_6, s80_7, x81, f13_82, by omega, hna⟩, ?_⟩; (show _ < _); rw [hmu20]; exact by omega
  ·have y34 := decide_eq_false c34
   have s83_13 : a33.eval (.tmp 13) = .bool (decide ((k : Int) < (L.length : Int))) := e33.2.2.2.1
   refine wp_cond_false (s83_13.trans (by rw [y34])) ?_
   refine wp_exit ?_
   repeat (first | (with_reducible refine then_exit ?_) | (with_reducible refine block_here ?_) | (with_reducible refine block_past rfl ?_))
   have hkk : k = L.length := by omega
   have hask : askd L (i : Int) = false := by have := hno; rw [hkk, List.take_length] at this; exact this
   refine hK18 _ _ ?_
   have s84_4 := ((q33 4 rfl).trans s20_4)
   refine rg mixed 36 [.eq (.int .i64 (i : Int)), .eq (.int .i64 ((i : Int) + 1)), .eq (.int .i64 ((i : Int) + 1))] [[(4, none)], [(8, some 0)], [(9, some 1)]] d33 z33 (by kernel_rfl) ⟨Ov rfl rfl fun _ _ T ⟨k4, _⟩ => ex_move (k4.trans s84_4), Ov rfl rfl fun _ _ T ⟨k8, _⟩ => ex_add64 k8 rfl (by omega), Ov rfl rfl fun _ _ T ⟨k9, _⟩ => ex_assign k9, trivial⟩ ?_
   intro a85 w85 d85 z85 t85 e85 q85
   repeat (with_reducible refine block_norm ?_)
   have s86_0 := ((q85 0 rfl).trans ((q33 0 rfl).trans s20_0))
   have s87_2 := ((q85 2 rfl).trans ((q33 2 rfl).trans s20_2))
   have s88_3 := ((q85 3 rfl).trans ((q33 3 rfl).trans s20_3))
   have s89_4 : a85.eval (.tmp 4) = .int .i64 ((i : Int) + 1) := e85.2.2.1
   have x90 := (Touch.trans (Touch.trans x20 (Ext.touch t33)) (Ext.touch t85))
   have f13_91 := (own_keep (own_keep f13_31 t33) t85)
   refine then_norm ?_
   refine ⟨_, ⟨i + 1, Qv, cv, rfl, d85, z85, s86_0, s87_2, (s88_3.trans (by first | rfl | (rw [vars_yes hask, List.length_append]; rfl) | (rw [vars_no hask]) | (congr 1; omega) | (simp; omega) | simp)), (s89_4.trans (by first | rfl | (rw [vars_yes hask, List.length_append]; rfl) | (rw [vars_no hask]) | (congr 1; omega) | (simp; omega) | simp)), x90, (by rw [vars_no hask]; exact f13_91), by omega, (by rw [vars_no hask]; exact hbase)⟩, ?_⟩; (show _ < _); rw [hmu5]; exact by omega
 ·have y16 := decide_eq_false c16
  have s92_7 : a15.eval (.tmp 7) = .bool (decide ((i : Int) < 104)) := e15.2.1
  refine wp_cond_false (s92_7.trans (by rw [y16])) ?_
  refine wp_exit ?_
  repeat (first | (with_reducible refine then_exit ?_) | (with_reducible refine block_here ?_) | (with_reducible refine block_past rfl ?_))
  refine hK3 _ _ ?_
  have s93_3 := ((q15 3 rfl).trans s5_3)
  refine rgs mixed 36 [.eq (.slice Qv ((varsL L i).length) cv), .eq (.slice Qv ((varsL L i).length) cv)] [[(3, none)], [(35, some 0)]] d15 z15 (by kernel_rfl) ⟨Ov rfl rfl fun _ _ T ⟨k3, _⟩ => ex_move (k3.trans s93_3), Ov rfl rfl fun _ _ T ⟨k35, _⟩ => ex_assign k35, trivial⟩ ?_
  intro a94 w94 d94 z94 t94 e94 q94
  refine wp_ret ?_
  have s95_2 : a94.eval (.tmp 2) = .slice Qv ((varsL L i).length) cv := e94.2.1
  repeat (first | (with_reducible refine then_ret ?_) | (with_reducible refine block_ret ?_))
  refine retl (rs := [.tmp 2]) Try.results65 ⟨s95_2, trivial⟩ d94 ?_
  have x96 := (Touch.trans (Touch.trans x5 (Ext.touch t15)) (Ext.touch t94))
  have f13_97 := (own_keep (own_keep f13 t15) t94)
  have hi4 : i = 104 := by omega
  subst hi4
  exact ⟨_, _, rfl, f13_97, (x96).ext, hbase⟩

set_option maxRecDepth 100000 in
set_option maxHeartbeats 4000000 in
theorem c_light08 {w : World} {Q : Option Addr} {L : List Ex} {cq : Nat} (HR : Reads w (.slice Q L.length cq) 6 (flat exv L) L.length)(hL : L.length ≤ 9223372036854775807)  : Calls Try.prog 20 #[.slice Q L.length cq] w fun e w' => ∃ b, e = .returned (.bool b) ∧ Ext w w' ∧ (b = true → RightL L ∧ L.length ≤ 30 ∧ (varsL L 104).length ≤ 7) := by
 refine enter 16 Try.ntmps20 Try.func20 rfl (Nat.le_of_ble_eq_true rfl) fun a0 d0 z0 hargs => ?_
 have s0_0 : a0.eval (.tmp 0) = .slice Q L.length cq := hargs 0 _ rfl
 have x0 := Touch.refl NoF w
 refine rgs mixed 16 [.eq (.bool false)] [[]] d0 z0 (by kernel_rfl) ⟨Ov rfl rfl fun _ _ T _ => ex_assign rfl, trivial⟩ ?_
 intro a1 w1 d1 z1 t1 e1 q1
 refine wp_seq ?_
 refine seq_begin ?_
 refine sp z1 rfl rfl (ex_move ((q1 0 rfl).trans s0_0)) ?_; intro a2 u2 z2
 have x5 := (Touch.trans x0 (Ext.touch t1))
 have rd4 := Reads.touch HR x5 (by decide) (reads_noF _ _)
 refine sc z2 rfl rfl (exl_call Try.func64 rfl rfl (cons_ops (u2.here _ rfl) nil_ops)) (c_Light06 rd4 (by omega)) ?_
 rintro e3 w3 ⟨bq3, he3, t3, rl3⟩; refine ⟨_, he3, ?_⟩; intro a3 u3 z3
 refine sp z3 rfl rfl (ex_move (u3.here _ rfl)) ?_; intro a6 u6 z6
 have p8 := fr4 q1 u2.past u3.past u6.past
 refine sg z6 rfl rfl rfl (u6.here _ rfl) (fun hcQ => ex_move ((p8 0 rfl).trans s0_0)) ?_; intro a7 u7 z7
 refine sg z7 rfl rfl rfl ((u7.past 5 rfl).trans (u6.here _ rfl)) (fun hcQ => ex_len (cons_ops ((u7.here _ rfl).trans (if_pos hcQ)) nil_ops) Try.underlying45) ?_; intro a9 u9 z9
 refine sg z9 rfl rfl rfl ((u9.past 5 rfl).trans ((u7.past 5 rfl).trans (u6.here _ rfl))) (fun hcQ => ex_leq ((u9.here _ rfl).trans (if_pos hcQ)) rfl) ?_; intro a10 u10 z10
 refine sp z10 rfl rfl (ex_pick_and ((u10.past 5 rfl).trans ((u9.past 5 rfl).trans ((u7.past 5 rfl).trans (u6.here _ rfl)))) (u10.here _ rfl) rfl) ?_; intro a11 u11 z11
 refine sp z11 rfl rfl (ex_move (u11.here _ rfl)) ?_; intro a12 u12 z12
 have p14 := fr4 u7.past u9.past u10.past u11.past
 refine sg z12 rfl rfl rfl (u12.here _ rfl) (fun hcQ => ex_move ((u12.past 0 rfl).trans ((p14 0 rfl).trans ((p8 0 rfl).trans s0_0)))) ?_; intro a13 u13 z13
 rcases Bool.eq_false_or_eq_true (bq3 && (decide ((L.length : Int) ≤ 30))) with y18 | y18
 ·have c18 := y18; try simp only [Bool.and_eq_true, Bool.or_eq_true, Bool.and_eq_false_iff, Bool.or_eq_false_iff, Bool.not_eq_true', Bool.not_eq_false', decide_eq_true_eq, decide_eq_false_iff_not] at c18
  have x21 := (Touch.trans x5 (Ext.touch t3))
  have rd20 := Reads.touch HR x21 (by decide) (reads_noF _ _)
  refine scy z13 rfl rfl rfl (((u13.past 10 rfl).trans (u12.here _ rfl)).trans (by rw [y18])) (exl_call Try.func65 rfl rfl (cons_ops ((u13.here _ rfl).trans (if_pos y18)) nil_ops)) (c_Vars08 rd20 (by omega)) ?_
  rintro e19 w19 ⟨Q19, cq19, he19, ho19, t19, hb19⟩; refine ⟨_, he19, ?_⟩; intro a19 u19 z19
  have no22 := row_base (hb19) (Touch.size x21)
  refine sy z19 rfl rfl rfl (((u19.past 10 rfl).trans ((u13.past 10 rfl).trans (u12.here _ rfl))).trans (by rw [y18])) (ex_len (cons_ops (u19.here _ rfl) nil_ops) Try.underlying47) ?_; intro a23 u23 z23
  refine sy z23 rfl rfl rfl (((u23.past 10 rfl).trans ((u19.past 10 rfl).trans ((u13.past 10 rfl).trans (u12.here _ rfl)))).trans (by rw [y18])) (ex_leq (u23.here _ rfl) rfl) ?_; intro a24 u24 z24
  refine sp z24 rfl rfl (ex_pick_t (((u24.past 10 rfl).trans ((u23.past 10 rfl).trans ((u19.past 10 rfl).trans ((u13.past 10 rfl).trans (u12.here _ rfl))))).trans (by rw [y18])) (u24.here _ rfl)) ?_; intro a25 u25 z25
  refine sp z25 rfl rfl (ex_assign (u25.here _ rfl)) ?_; intro a26 u26 z26
  have d27 := (u26.defs.trans (u25.defs.trans (u24.defs.trans (u23.defs.trans (u19.defs.trans (u13.defs.trans (u12.defs.trans (u11.defs.trans (u10.defs.trans (u9.defs.trans (u7.defs.trans (u6.defs.trans (u3.defs.trans (u2.defs.trans d1))))))))))))))
  refine seq_end ?_
  refine then_norm ?_
  refine wp_ret ?_
  have s28_2 : a26.eval (.tmp 2) = .bool (decide (((varsL L 104).length : Int) ≤ 7)) := (u26.here _ rfl)
  repeat (first | (with_reducible refine then_ret ?_) | (with_reducible refine block_ret ?_))
  refine retl (rs := [.tmp 2]) Try.results20 ⟨s28_2, trivial⟩ d27 ?_
  have x29 := (Touch.trans x21 (Ext.touch t19))
  exact ⟨_, rfl, (x29).ext, fun h => by first | (exfalso; simp_all; done) | (have hl := vars_len L 104; simp only [Bool.and_eq_true, Bool.or_eq_true, Bool.and_eq_false_iff, Bool.or_eq_false_iff, Bool.not_eq_true', Bool.not_eq_false', decide_eq_true_eq, decide_eq_false_iff_not, beq_iff_eq, beq_eq_false_iff_ne, ne_eq, Bool.not_eq_true, Bool.not_eq_false] at *; exact ⟨rl3 (by simp_all), by omega, by omega⟩)⟩
 ·have c18 := y18; try simp only [Bool.and_eq_true, Bool.or_eq_true, Bool.and_eq_false_iff, Bool.or_eq_false_iff, Bool.not_eq_true', Bool.not_eq_false', decide_eq_true_eq, decide_eq_false_iff_not] at c18
  refine sn z13 rfl rfl rfl (.inl (((u13.past 10 rfl).trans (u12.here _ rfl)).trans (by rw [y18]; rfl))) ?_; intro a30 u30 z30
  refine sn z30 rfl rfl rfl (.inl (((u30.past 10 rfl).trans ((u13.past 10 rfl).trans (u12.here _ rfl))).trans (by rw [y18]; rfl))) ?_; intro a31 u31 z31
  refine sn z31 rfl rfl rfl (.inl (((u31.past 10 rfl).trans ((u30.past 10 rfl).trans ((u13.past 10 rfl).trans (u12.here _ rfl)))).trans (by rw [y18]; rfl))) ?_; intro a32 u32 z32
  refine sp z32 rfl rfl (ex_pick_f (((u32.past 10 rfl).trans ((u31.past 10 rfl).trans ((u30.past 10 rfl).trans ((u13.past 10 rfl).trans (u12.here _ rfl))))).trans (by rw [y18])) rfl) ?_; intro a33 u33 z33
  refine sp z33 rfl rfl (ex_assign (u33.here _ rfl)) ?_; intro a34 u34 z34
  have d35 := (u34.defs.trans (u33.defs.trans (u32.defs.trans (u31.defs.trans (u30.defs.trans (u13.defs.trans (u12.defs.trans (u11.defs.trans (u10.defs.trans (u9.defs.trans (u7.defs.trans (u6.defs.trans (u3.defs.trans (u2.defs.trans d1))))))))))))))
  refine seq_end ?_
  refine then_norm ?_
  refine wp_ret ?_
  have s36_2 : a34.eval (.tmp 2) = .bool false := (u34.here _ rfl)
  repeat (first | (with_reducible refine then_ret ?_) | (with_reducible refine block_ret ?_))
  refine retl (rs := [.tmp 2]) Try.results20 ⟨s36_2, trivial⟩ d35 ?_
  have x37 := (Touch.trans x5 (Ext.touch t3))
  exact ⟨_, rfl, (x37).ext, fun h => by first | (exfalso; simp_all; done) | (have hl := vars_len L 104; simp only [Bool.and_eq_true, Bool.or_eq_true, Bool.and_eq_false_iff, Bool.or_eq_false_iff, Bool.not_eq_true', Bool.not_eq_false', decide_eq_true_eq, decide_eq_false_iff_not, beq_iff_eq, beq_eq_false_iff_ne, ne_eq, Bool.not_eq_true, Bool.not_eq_false] at *; exact ⟨rl3 (by simp_all), by omega, by omega⟩)⟩

end Go.Proofs.Yticodddigaiipaa
