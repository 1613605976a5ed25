/-
 Contracts of functions of the given program, each proved by a walk through its code: what a call answers, and what it leaves of memory; conditions: those ahead of each theorem's colon.
-/
import Derived.Test.YticodddigaiipaaSatL9
set_option linter.unusedVariables false
set_option linter.unusedSimpArgs false
namespace Go.Proofs.Yticodddigaiipaa
open Go.RowKit
theorem fa_139_5 (b off : Nat) (w : World) : (Instr.fieldAt 139 (.pointer (some ⟨b, off, none⟩)) 5).run Try.prog w = .ok (.pointer (some ⟨b, off + 5, none⟩)) w := by kernel_rfl
set_option maxRecDepth 100000 in
set_option maxHeartbeats 4000000 in
theorem c_Make {w : World} {b : Nat} {Fp : Nat → Prop} {A : List N3} {most : Int} (H : ArenaAt w b Fp A most) (hW : Wf A) (hm : (A.length : Int) ≤ most) (hm2 : most ≤ 262144) {Q : Option Addr} {L : List Ex} {cq : Nat} (HR : Reads w (.slice Q L.length cq) 6 (flat exv L) L.length) (hR : RightL L) (hLl : L.length ≤ 30) (hV : LvIn (varsL L 104) A) (hbig : ((A.length + L.length * (3 * 2 ^ (varsL L 104).length) : Nat) : Int) ≤ most) (hout : ∀ j, (Value.slice Q L.length cq).ownBlock = some j → 0 < L.length → ¬ Fp j) : Calls Try.prog 22 #[.pointer (some ⟨b, 0, none⟩), .slice Q L.length cq] w fun e w' => ∃ Fp' A' S' Q' c', e = .returned (.tuple #[.slice Q' L.length c', .int .i64 0]) ∧ ArenaAt w' b Fp' A' most ∧ Mut Fp Fp' w w' ∧ w'.ownsRow 0 3 1 (.slice Q' L.length c') L.length (flat inv1 S') ∧ (∀ j, (Value.slice Q' L.length c').ownBlock = some j → ¬ Fp' j) ∧ (∀ j, (Value.slice Q' L.length c').ownBlock = some j → w.heap.size ≤ j) ∧ (A'.length : Int) ≤ most ∧ MkInv L (varsL L 104) A' S' L.length A.length (3 * 2 ^ (varsL L 104).length) := by
 have hl2 := hW.len
 refine enter 117 Try.ntmps22 Try.func22 rfl (Nat.le_of_ble_eq_true rfl) fun a0 d0 z0 hargs => ?_
 have s0_0 : a0.eval (.tmp 0) = .pointer (some ⟨b, 0, none⟩) := hargs 0 _ rfl
 have s0_1 : a0.eval (.tmp 1) = .slice Q L.length cq := hargs 1 _ rfl
 have x0 := Touch.refl Fp w
 refine rgs mixed 117 [.eq (.slice none 0 0), .eq (.int .i64 0)] [[], []] d0 z0 (by kernel_rfl) ⟨Ov rfl rfl fun _ _ T _ => ex_assign rfl, Ov rfl rfl fun _ _ T _ => ex_assign rfl, trivial⟩ ?_
 intro a1 w1 d1 z1 t1 e1 q1
 refine rgs mixed 117 [.eq (.slice none 0 0)] [[]] d1 z1 (by kernel_rfl) ⟨Ov rfl rfl fun _ _ T _ => ex_assign rfl, trivial⟩ ?_
 intro a2 w2 d2 z2 t2 e2 q2
 refine wp_seq_k fun K3 hK3 => ?_
 have s4_1 := ((q2 1 rfl).trans ((q1 1 rfl).trans s0_1))
 refine rgs mixed 117 [.eq (.slice Q L.length cq), .eq (.int .i64 (L.length : Int)), .eq (.int .i64 0)] [[(1, none)], [(11, some 0)], []] d2 z2 (by kernel_rfl) ⟨Ov rfl rfl fun _ _ T ⟨k1, _⟩ => ex_move (k1.trans s4_1), Ov rfl rfl fun _ _ T ⟨k11, _⟩ => ex_len (cons_ops k11 nil_ops) Try.underlying45, Ov rfl rfl fun _ _ T _ => ex_move rfl, trivial⟩ ?_
 intro a5 w5 d5 z5 t5 e5 q5
 refine wp_block ?_
 have H_6 := (ArenaAt.keep (ArenaAt.keep (ArenaAt.keep H t1) t2) t5)
 have s8_0 := ((q5 0 rfl).trans ((q2 0 rfl).trans ((q1 0 rfl).trans s0_0)))
 have s9_6 : a2.eval (.tmp 6) = .slice none 0 0 := e2.1
 have s10_6 := ((q5 6 rfl).trans s9_6)
 have s11_11 : a5.eval (.tmp 11) = .slice Q L.length cq := e5.1
 have s12_12 : a5.eval (.tmp 12) = .int .i64 (L.length : Int) := e5.2.1
 have s13_13 : a5.eval (.tmp 13) = .int .i64 0 := e5.2.2.1
 have x14 := (Touch.trans (Touch.trans (Touch.trans x0 (Ext.touch t1)) (Ext.touch t2)) (Ext.touch t5))
 refine wp_loopg (σ := Nat) (fun nQ aQ wQ => ∃ k : Nat, ∃ A1 : List N3, ∃ Fp1 : Nat → Prop, ∃ S1 : List Int, ∃ Q1 : Option Addr, ∃ c1 : Nat, nQ = (L.length - k) ∧
  aQ.defers = [] ∧
  aQ.tmps.size = 117 ∧
  aQ.eval (.tmp 0) = .pointer (some ⟨b, 0, none⟩) ∧
  aQ.eval (.tmp 6) = .slice Q1 k c1 ∧
  aQ.eval (.tmp 11) = .slice Q L.length cq ∧
  aQ.eval (.tmp 12) = .int .i64 (L.length : Int) ∧
  aQ.eval (.tmp 13) = .int .i64 (k : Int) ∧
  Touch (Fp) w wQ ∧
  ArenaAt wQ b Fp1 A1 most ∧
  wQ.ownsRow 0 3 1 (.slice Q1 k c1) k (flat inv1 S1) ∧
  (k ≤ L.length) ∧
  (MkInv L (varsL L 104) A1 S1 k A.length (3 * 2 ^ (varsL L 104).length)) ∧
  (A <+: A1) ∧
  ((A1.length : Int) ≤ most) ∧
  (∀ j, Fp1 j → Fp j ∨ w.heap.size ≤ j) ∧
  (∀ j, (Value.slice Q1 k c1).ownBlock = some j → ¬ Fp1 j) ∧
  (∀ j, (Value.slice Q1 k c1).ownBlock = some j → w.heap.size ≤ j)) (fun nQ => nQ) _ ⟨0, A, Fp, [], none, 0, rfl, d5, z5, s8_0, (s10_6.trans (by first | rfl | (congr 1; omega) | (simp; omega) | simp)), s11_11, s12_12, (s13_13.trans (by first | rfl | (congr 1; omega) | (simp; omega) | simp)), x14, H_6, (World.ownsRow_nil _ 0 3 1), Nat.zero_le _, ⟨hW, hV, by simp, rfl, fun j h0 h1 => by omega⟩, List.prefix_refl _, hm, (fun jQ hQ => Or.inl hQ), by simp [Value.ownBlock], by simp [Value.ownBlock]⟩ ?_
 rintro nQ7 a7 w7 ⟨k, A1, Fp1, S1, Q1, c1, hmu7, d7, z7, s7_0, s7_6, s7_11, s7_12, s7_13, x7, f15, f16, hk, hI, hpre, hroom, hin, hout1, hbase⟩
 have len1 := hI.wf.len
 refine rgs mixed 117 [.eq (.bool (decide ((k : Int) < (L.length : Int))))] [[(13, none), (12, none)]] d7 z7 (by kernel_rfl) ⟨Ov rfl rfl fun _ _ T ⟨k13, k12, _⟩ => ex_lss (k13.trans s7_13) (k12.trans s7_12), trivial⟩ ?_
 intro a17 w17 d17 z17 t17 e17 q17
 refine wp_seq_k fun K18 hK18 => ?_
 by_cases c19 : (k : Int) < (L.length : Int)
 ·have y19 := decide_eq_true c19
  have s20_14 : a17.eval (.tmp 14) = .bool (decide ((k : Int) < (L.length : Int))) := e17.1
  refine wp_cond_true (s20_14.trans (by rw [y19])) ?_
  refine wp_skip ?_
  repeat (with_reducible refine block_norm ?_)
  refine hK18 _ _ ?_
  refine wp_seq_k fun K21 hK21 => ?_
  refine wp_block ?_
  have hx := hR (k : Int) (by omega) (by omega); have hxv := hx.v; have hxk := hx.k
  refine wp_seq ?_
  refine seq_begin ?_
  have x24 := (Touch.trans x7 (Ext.touch t17))
  have rd23 := Reads.touch HR x24 (by decide) hout
  refine sp z17 rfl rfl (ex_ixr Try.underlying45 (Try.sizeOf139 _) ((q17 11 rfl).trans s7_11) (Reads.eqA rd23 (by omega)) ((q17 13 rfl).trans s7_13) (by omega) (by omega)) ?_; intro a22 u22 z22
  refine sp z22 rfl rfl (ex_loadAgg (cs := [.int .i64 ((at_ L e0 (k : Int)).k), .int .i64 ((at_ L e0 (k : Int)).a), .int .i64 ((at_ L e0 (k : Int)).b), .int .i64 ((at_ L e0 (k : Int)).c), .int .i64 ((at_ L e0 (k : Int)).v), .bool ((at_ L e0 (k : Int)).on)]) (u22.here _ rfl) (Try.isAgg139 _) (Try.sizeOf139 _) (rd_ats (us := [.int .i64 ((at_ L e0 (k : Int)).k), .int .i64 ((at_ L e0 (k : Int)).a), .int .i64 ((at_ L e0 (k : Int)).b), .int .i64 ((at_ L e0 (k : Int)).c), .int .i64 ((at_ L e0 (k : Int)).v), .bool ((at_ L e0 (k : Int)).on)]) rd23 (Reads.eqA rd23 (by omega)) exv6 (at_some' (d := e0) (by rfl) (by omega) (by omega)) 0 rfl)) ?_; intro a25 u25 z25
  refine salloc z25 rfl (zv_139 _) ?_; intro b26 w26 a26 t26 g26 hb26 u26 z26
  have f16_28 := (own_keep f16 t17)
  have no27 := no_new f16_28 g26
  have f15_30 := (ArenaAt.keep f15 t17)
  have o29 : ¬ Fp1 b26 := fun hQ => by have := ArenaAt.lt f15_30 hQ; omega
  have yb26_31 := Nat.le_trans (Touch.size x24) g26
  refine sstore (cs := [.int .i64 0, .int .i64 0, .int .i64 0, .int .i64 0, .int .i64 0, .bool false]) (vs := [.int .i64 ((at_ L e0 (k : Int)).k), .int .i64 ((at_ L e0 (k : Int)).a), .int .i64 ((at_ L e0 (k : Int)).b), .int .i64 ((at_ L e0 (k : Int)).c), .int .i64 ((at_ L e0 (k : Int)).v), .bool ((at_ L e0 (k : Int)).on)]) (cs' := [.int .i64 ((at_ L e0 (k : Int)).k), .int .i64 ((at_ L e0 (k : Int)).a), .int .i64 ((at_ L e0 (k : Int)).b), .int .i64 ((at_ L e0 (k : Int)).c), .int .i64 ((at_ L e0 (k : Int)).v), .bool ((at_ L e0 (k : Int)).on)]) z26 rfl (u26.here _ rfl) ((u26.past 16 rfl).trans (u25.here _ rfl)) hb26 (Try.sizeOf139 _) rfl rfl (by decide) (Nat.le_of_ble_eq_true rfl) rfl rfl ?_; intro w32 a32 t32 u32 z32
  have d33 := (u32.defs.trans (u26.defs.trans (u25.defs.trans (u22.defs.trans d17))))
  refine seq_end ?_
  refine then_norm ?_
  refine rgs mixed 117 [.eq (.int .i64 0), .eq (.int .i64 0)] [[], []] d33 z32 (by kernel_rfl) ⟨Ov rfl rfl fun _ _ T _ => ex_assign rfl, Ov rfl rfl fun _ _ T _ => ex_assign rfl, trivial⟩ ?_
  intro a34 w34 d34 z34 t34 e34 q34
  refine wp_seq_k fun K35 hK35 => ?_
  have s36_8 : a26.eval (.tmp 8) = .pointer (some ⟨b26, 0, none⟩) := (u26.here _ rfl)
  have s37_8 := ((q34 8 rfl).trans ((u32.past 8 rfl).trans s36_8))
  have t32.here_38 := (Ext.keep t34 t32.here)
  refine rgs mixed 117 [.eq (.pointer (some ⟨b26, 0, none⟩)), .eq (.int .i64 ((at_ L e0 (k : Int)).k))] [[(8, none)], [(17, some 0)]] d34 z34 (by kernel_rfl) ⟨Ov rfl rfl fun _ _ T ⟨k8, _⟩ => ex_fieldAddr (k8.trans s37_8) (fa_139_0 _ _ _), Ov rfl rfl fun _ _ T ⟨k17, _⟩ => ex_load k17 (Try.isAgg3 _) (cell_of (Ext.keep T.ext t32.here_38) rfl), trivial⟩ ?_
  intro a39 w39 d39 z39 t39 e39 q39
  refine wp_block ?_
  have s40_18 : a39.eval (.tmp 18) = .int .i64 ((at_ L e0 (k : Int)).k) := e39.2.1
  refine rgs mixed 117 [.eq (.bool (decide (((at_ L e0 (k : Int)).k) = 1))), .eq (.bool (decide (((at_ L e0 (k : Int)).k) = 1)))] [[(18, none)], [(20, some 0)]] d39 z39 (by kernel_rfl) ⟨Ov rfl rfl fun _ _ T ⟨k18, _⟩ => ex_eql (k18.trans s40_18) rfl, Ov rfl rfl fun _ _ T ⟨k20, _⟩ => ex_assign k20, trivial⟩ ?_
  intro a41 w41 d41 z41 t41 e41 q41
  have p43 := fr4 q17 u22.past u25.past u26.past
  have p44 := fr4 u32.past q34 q39 q41
  have s42_0 := ((p44 0 rfl).trans ((p43 0 rfl).trans s7_0))
  have s45_6 := ((p44 6 rfl).trans ((p43 6 rfl).trans s7_6))
  have s46_11 := ((p44 11 rfl).trans ((p43 11 rfl).trans s7_11))
  have s47_12 := ((p44 12 rfl).trans ((p43 12 rfl).trans s7_12))
  have s48_13 := ((p44 13 rfl).trans ((p43 13 rfl).trans s7_13))
  have f15_49 := (ArenaAt.keep (ArenaAt.keep (ArenaAt.keep (ArenaAt.turn (ArenaAt.keep f15_30 t26) t32 o29) t34) t39) t41)
  have f16_50 := (own_keep (own_keep (own_keep (own_touch (own_keep f16_28 t26) t32.touch (fun jQ hQ eQ => no27 jQ hQ eQ)) t34) t39) t41)
  have x51 := (Touch.trans (Touch.trans (Touch.trans (Touch.turn (Touch.trans x24 (Ext.touch t26)) t32 (Or.inr yb26_31)) (Ext.touch t34)) (Ext.touch t39)) (Ext.touch t41))
  by_cases c52 : ((at_ L e0 (k : Int)).k) = 1
  ·have y52 := decide_eq_true c52
   have s53_19 : a41.eval (.tmp 19) = .bool (decide (((at_ L e0 (k : Int)).k) = 1)) := e41.2.1
   refine wp_cond_true (s53_19.trans (by rw [y52])) ?_
   refine rg mixed 117 [.eq (.int .i64 1)] [[]] d41 z41 (by kernel_rfl) ⟨Ov rfl rfl fun _ _ T _ => ex_assign rfl, trivial⟩ ?_
   intro a54 w54 d54 z54 t54 e54 q54
   repeat (with_reducible refine block_norm ?_)
   refine hK35 _ _ ?_
   refine wp_seq_k fun K55 hK55 => ?_
   have s56_10 : a34.eval (.tmp 10) = .int .i64 0 := e34.2.1
   have s57_10 := ((q54 10 rfl).trans ((q41 10 rfl).trans ((q39 10 rfl).trans s56_10)))
   refine rgs mixed 117 [.eq (.int .i64 0), .eq (.bool false)] [[(10, none)], [(107, some 0)]] d54 z54 (by kernel_rfl) ⟨Ov rfl rfl fun _ _ T ⟨k10, _⟩ => ex_move (k10.trans s57_10), Ov rfl rfl fun _ _ T ⟨k107, _⟩ => ex_neq (m := 0) (n := 0) k107 rfl, trivial⟩ ?_
   intro a58 w58 d58 z58 t58 e58 q58
   have s59_108 : a58.eval (.tmp 108) = .bool false := e58.2.1
   refine wp_cond_false s59_108 ?_
   refine wp_skip ?_
   repeat (with_reducible refine block_norm ?_)
   refine hK55 _ _ ?_
   refine seq_begin ?_
   refine sp z58 rfl rfl (ex_move ((q58 6 rfl).trans ((q54 6 rfl).trans s45_6))) ?_; intro a60 u60 z60
   refine sp z60 rfl rfl (ex_move ((u60.past 9 rfl).trans ((q58 9 rfl).trans e54.1))) ?_; intro a61 u61 z61
   refine snew (mk := fun bQ => .slice (some ⟨bQ, 0, none⟩) 1 1) z61 rfl rfl (exl_buildSlice (cons_parts (u61.here _ rfl) nil_parts) (bs_47_1_0Ii64 1 _)) ?_; intro b62 w62 a62 t62 g62 hb62 u62 z62
   have f16_64 := (own_keep (own_keep f16_50 t54) t58)
   have no63 := no_new f16_64 g62
   have t32.here_66 := (Ext.keep t58 (Ext.keep t54 (Ext.keep t41 (Ext.keep t39 t32.here_38))))
   have n65_b26_b62 := ne_lt (lt_of t32.here_66) g62
   have f15_68 := (ArenaAt.keep (ArenaAt.keep f15_49 t54) t58)
   have o67 : ¬ Fp1 b62 := fun hQ => by have := ArenaAt.lt f15_68 hQ; omega
   have x70 := (Touch.trans (Touch.trans x51 (Ext.touch t54)) (Ext.touch t58))
   have yb62_69 := Nat.le_trans (Touch.size x70) g62
   have f16_72 := (own_keep f16_64 t62)
   refine sapp (m := 1) (news := [.int .i64 1]) z62 rfl el_47 f16_72 ((u62.past 111 rfl).trans ((u61.past 111 rfl).trans (u60.here _ rfl))) (u62.here _ rfl) rfl (news_of hb62) rfl (by omega) (by omega) ?_; intro A71 cp71 w71 a71 t71 u71 z71
   have x74 := (Touch.trans x70 (Ext.touch t62))
   have t32.here_76 := (Ext.keep t62 t32.here_66)
   have no75 := App.no t71 (lt_of t32.here_76) (fun (jQ : Nat) hQ (eQ : jQ = b26) => (fun (eQ : some b26 = _) => no27 _ eQ.symm rfl) (by rw [← eQ]; exact hQ.symm))
   have no77 := App.no t71 (lt_of hb62) (fun (jQ : Nat) hQ (eQ : jQ = b62) => (fun (eQ : some b62 = _) => no63 _ eQ.symm rfl) (by rw [← eQ]; exact hQ.symm))
   have f15_79 := (ArenaAt.keep f15_68 t62)
   have o78 := App.out t71 (fun kQ hQ => ArenaAt.lt f15_79 hQ) hout1
   have no80 := App.base t71 (Touch.size x74) hbase
   refine sp z71 rfl rfl (ex_assign (u71.here _ rfl)) ?_; intro a81 u81 z81
   have d82 := (u81.defs.trans (u71.defs.trans (u62.defs.trans (u61.defs.trans (u60.defs.trans d58)))))
   refine seq_end ?_
   repeat (with_reducible refine block_norm ?_)
   refine hK21 _ _ ?_
   have p84 := fr4 q54 q58 u60.past u61.past
   have s83_13 := ((u81.past 13 rfl).trans ((u71.past 13 rfl).trans ((u62.past 13 rfl).trans ((p84 13 rfl).trans s48_13))))
   refine rg mixed 117 [.eq (.int .i64 ((k : Int) + 1)), .eq (.int .i64 ((k : Int) + 1))] [[(13, none)], [(115, some 0)]] d82 z81 (by kernel_rfl) ⟨Ov rfl rfl fun _ _ T ⟨k13, _⟩ => ex_add64 (k13.trans s83_13) rfl (by omega), Ov rfl rfl fun _ _ T ⟨k115, _⟩ => ex_move k115, trivial⟩ ?_
   intro a85 w85 d85 z85 t85 e85 q85
   repeat (with_reducible refine block_norm ?_)
   have hgd : Okn A1 1 ∧ ∀ v, den A1 v 1 = sem L (k : Int) v := ⟨⟨by omega, by omega⟩, fun v => by rw [sem_k1 (i := (k : Int)) hR (by omega) (by omega) v (by omega)]; rfl⟩
   have p87 := fr4 u62.past u71.past u81.past q85
   have s86_0 := ((p87 0 rfl).trans ((p84 0 rfl).trans s42_0))
   have s88_6 : a81.eval (.tmp 6) = .slice A71 (k + 1) cp71 := (u81.here _ rfl)
   have s89_6 := ((q85 6 rfl).trans s88_6)
   have s90_11 := ((p87 11 rfl).trans ((p84 11 rfl).trans s46_11))
   have s91_12 := ((p87 12 rfl).trans ((p84 12 rfl).trans s47_12))
   have s92_13 : a85.eval (.tmp 13) = .int .i64 ((k : Int) + 1) := e85.2.1
   have x93 := (Touch.trans (Touch.via x74 t71.touch (fun jQ hQ => Or.inr (hbase jQ hQ.symm))) (Ext.touch t85))
   have f15_94 := (ArenaAt.keep (ArenaAt.same f15_79 fun kQ hQ => t71.touch.block _ (ArenaAt.lt f15_79 hQ) (fun eQ => hout1 kQ eQ.symm hQ)) t85)
   have t71.own_95 := (own_keep t71.own t85)
   refine then_norm ?_
   refine ⟨_, ⟨k + 1, _, Fp1, S1 ++ [1], A71, cp71, rfl, d85, z85, s86_0, s89_6, s90_11, s91_12, (s92_13.trans (by first | rfl | (congr 1; omega) | (simp; omega) | simp)), x93, f15_94, (by rw [← flat_push]; exact t71.own_95), by omega, hI.step (List.prefix_refl _) hI.wf (gw_same (most := most) hI.lv (m_pos _)) hgd.1 hgd.2, hpre.trans (List.prefix_refl _), hroom, hin, o78, no80⟩, ?_⟩; (show _ < _); rw [hmu7]; exact by omega
  ·have y52 := decide_eq_false c52
   have s96_19 : a41.eval (.tmp 19) = .bool (decide (((at_ L e0 (k : Int)).k) = 1)) := e41.2.1
   refine wp_cond_false (s96_19.trans (by rw [y52])) ?_
   have s97_18 := ((q41 18 rfl).trans s40_18)
   refine rgs mixed 117 [.eq (.bool (decide (((at_ L e0 (k : Int)).k) = 2))), .eq (.bool (decide (((at_ L e0 (k : Int)).k) = 2)))] [[(18, none)], [(22, some 0)]] d41 z41 (by kernel_rfl) ⟨Ov rfl rfl fun _ _ T ⟨k18, _⟩ => ex_eql (k18.trans s97_18) rfl, Ov rfl rfl fun _ _ T ⟨k22, _⟩ => ex_assign k22, trivial⟩ ?_
   intro a98 w98 d98 z98 t98 e98 q98
   have t32.here_99 := (Ext.keep t98 (Ext.keep t41 (Ext.keep t39 t32.here_38)))
   by_cases c100 : ((at_ L e0 (k : Int)).k) = 2
   ·have y100 := decide_eq_true c100
    have s101_21 : a98.eval (.tmp 21) = .bool (decide (((at_ L e0 (k : Int)).k) = 2)) := e98.2.1
    refine wp_cond_true (s101_21.trans (by rw [y100])) ?_
    refine seq_begin ?_
    refine sp z98 rfl rfl (ex_move ((q98 0 rfl).trans s42_0)) ?_; intro a102 u102 z102
    refine sp z102 rfl rfl (ex_fieldAddr ((u102.past 8 rfl).trans ((q98 8 rfl).trans ((q41 8 rfl).trans ((q39 8 rfl).trans s37_8)))) (fa_139_4 _ _ _)) ?_; intro a103 u103 z103
    refine sp z103 rfl rfl (ex_load (u103.here _ rfl) (Try.isAgg3 _) (cell_of t32.here_99 rfl)) ?_; intro a104 u104 z104
    have p106 := fr4 q98 u102.past u103.past u104.past
    refine sp z104 rfl rfl (ex_fieldAddr ((p106 8 rfl).trans ((q41 8 rfl).trans ((q39 8 rfl).trans s37_8))) (fa_139_5 _ _ _)) ?_; intro a105 u105 z105
    refine sp z105 rfl rfl (ex_load (u105.here _ rfl) (Try.isAgg4 _) (cell_of t32.here_99 rfl)) ?_; intro a107 u107 z107
    refine sp z107 rfl rfl (exl_build (cons_parts ((u107.past 26 rfl).trans ((u105.past 26 rfl).trans (u104.here _ rfl))) (cons_parts (u107.here _ rfl) nil_parts)) (bd_133_0Ii64_1B ((at_ L e0 (k : Int)).v) ((at_ L e0 (k : Int)).on) _)) ?_; intro a108 u108 z108
    refine snew (mk := fun bQ => .slice (some ⟨bQ, 0, none⟩) 1 1) z108 rfl rfl (exl_buildSlice (cons_parts (u108.here _ rfl) nil_parts) (bs_128_1_0AIi64BE ((at_ L e0 (k : Int)).v) ((at_ L e0 (k : Int)).on) _)) ?_; intro b109 w109 a109 t109 g109 hb109 u109 z109
    have f16_111 := (own_keep f16_50 t98)
    have no110 := no_new f16_111 g109
    have n112_b26_b109 := ne_lt (lt_of t32.here_99) g109
    have f15_114 := (ArenaAt.keep f15_49 t98)
    have o113 : ¬ Fp1 b109 := fun hQ => by have := ArenaAt.lt f15_114 hQ; omega
    have x116 := (Touch.trans x51 (Ext.touch t98))
    have yb109_115 := Nat.le_trans (Touch.size x116) g109
    have p118 := fr4 u105.past u107.past u108.past u109.past
    have f15_119 := (ArenaAt.keep f15_114 t109)
    refine sc z109 rfl rfl (exl_call Try.func56 rfl rfl (cons_ops ((p118 24 rfl).trans ((u104.past 24 rfl).trans ((u103.past 24 rfl).trans (u102.here _ rfl)))) (cons_ops (u109.here _ rfl) nil_ops))) (c_Cube (L := [((at_ L e0 (k : Int)).v, (at_ L e0 (k : Int)).on)]) rfl f15_119 hI.wf hroom hm2 (own_of (k := 2) (n := 1) (cs := flat lvs_ [((at_ L e0 (k : Int)).v, (at_ L e0 (k : Int)).on)]) hb109 rfl (by decide)) (cubic_one (by omega)) (by simp) (fun jQ hQ => by cases hQ; exact o113)) ?_
    rintro e117 w117 ⟨Fp117, A117, r117, c117, he117, H117, m117, R117, back117, more117⟩; refine ⟨_, he117, ?_⟩; intro a117 u117 z117
    have f16_120 := (own_keep f16_111 t109)
    have o121 := fun jQ hQ => Mut.out m117 (own_lt f16_120 hQ) (hout1 jQ hQ)
    have t32.here_122 := (Ext.keep t109 t32.here_99)
    have o123 := Mut.out m117 (lt_of t32.here_122) o29
    have o124 := Mut.out m117 (lt_of hb109) o113
    have x125 := (Touch.trans x116 (Ext.touch t109))
    have i126 := Mut.inF m117 x125 hin
    have gw117 : Gw (varsL L 104) A1 A117 most c117 (3 * 2 ^ (varsL L 104).length) := (cube_gw more117.2 (mem_vars 104 hx.v.1 hx.v.2 (askd_hit (i := (at_ L e0 (k : Int)).v) (k := (k : Int)) (by omega) (by omega) (by omega) rfl)) hI.lv len1).mono (m_two _)
    have hz117 : c117 = 0 := hI.full (by omega) gw117 hbig
    have kn127 : decide (c117 ≠ 0) = false := by rw [hz117]; rfl
    have gd117 := R117.ok.elim (fun hQ => hQ.2) (fun hQ => by omega)
    refine sp z117 rfl rfl (ex_move (u117.here _ rfl)) ?_; intro a128 u128 z128
    refine sp z128 rfl rfl (ex_extract (u128.here _ rfl) rfl) ?_; intro a129 u129 z129
    refine sp z129 rfl rfl (ex_extract ((u129.past 23 rfl).trans (u128.here _ rfl)) rfl) ?_; intro a130 u130 z130
    refine sp z130 rfl rfl (ex_assign ((u130.past 32 rfl).trans (u129.here _ rfl))) ?_; intro a131 u131 z131
    refine sp z131 rfl rfl (ex_assign ((u131.past 33 rfl).trans (u130.here _ rfl))) ?_; intro a132 u132 z132
    have d133 := (u132.defs.trans (u131.defs.trans (u130.defs.trans (u129.defs.trans (u128.defs.trans (u117.defs.trans (u109.defs.trans (u108.defs.trans (u107.defs.trans (u105.defs.trans (u104.defs.trans (u103.defs.trans (u102.defs.trans d98)))))))))))))
    refine seq_end ?_
    repeat (with_reducible refine block_norm ?_)
    refine hK35 _ _ ?_
    refine wp_seq_k fun K134 hK134 => ?_
    have s135_10 : a132.eval (.tmp 10) = .int .i64 c117 := (u132.here _ rfl)
    refine rgs mixed 117 [.eq (.int .i64 c117), .eq (.bool (decide (c117 ≠ 0)))] [[(10, none)], [(107, some 0)]] d133 z132 (by kernel_rfl) ⟨Ov rfl rfl fun _ _ T ⟨k10, _⟩ => ex_move (k10.trans s135_10), Ov rfl rfl fun _ _ T ⟨k107, _⟩ => ex_neq k107 rfl, trivial⟩ ?_
    intro a136 w136 d136 z136 t136 e136 q136
    have s137_108 : a136.eval (.tmp 108) = .bool (decide (c117 ≠ 0)) := e136.2.1
    refine wp_cond_false (s137_108.trans (by rw [kn127])) ?_
    refine wp_skip ?_
    repeat (with_reducible refine block_norm ?_)
    refine hK134 _ _ ?_
    refine seq_begin ?_
    have p139 := fr4 u117.past u128.past u129.past u130.past
    refine sp z136 rfl rfl (ex_move ((q136 6 rfl).trans ((u132.past 6 rfl).trans ((u131.past 6 rfl).trans ((p139 6 rfl).trans ((p118 6 rfl).trans ((p106 6 rfl).trans s45_6))))))) ?_; intro a138 u138 z138
    refine sp z138 rfl rfl (ex_move ((u138.past 9 rfl).trans ((q136 9 rfl).trans ((u132.past 9 rfl).trans (u131.here _ rfl))))) ?_; intro a140 u140 z140
    refine snew (mk := fun bQ => .slice (some ⟨bQ, 0, none⟩) 1 1) z140 rfl rfl (exl_buildSlice (cons_parts (u140.here _ rfl) nil_parts) (bs_47_1_0Ii64 r117 _)) ?_; intro b141 w141 a141 t141 g141 hb141 u141 z141
    have f16_143 := (own_keep (Mut.own m117 f16_120 hout1) t136)
    have no142 := no_new f16_143 g141
    have t32.here_145 := (Ext.keep t136 (Mut.keep m117 t32.here_122 o29))
    have n144_b26_b141 := ne_lt (lt_of t32.here_145) g141
    have hb109_147 := (Ext.keep t136 (Mut.keep m117 hb109 o113))
    have n146_b109_b141 := ne_lt (lt_of hb109_147) g141
    have H117_149 := (ArenaAt.keep H117 t136)
    have o148 : ¬ Fp117 b141 := fun hQ => by have := ArenaAt.lt H117_149 hQ; omega
    have x151 := (Touch.trans (Touch.mut x125 m117 hin) (Ext.touch t136))
    have yb141_150 := Nat.le_trans (Touch.size x151) g141
    have f16_153 := (own_keep f16_143 t141)
    refine sapp (m := 1) (news := [.int .i64 r117]) z141 rfl el_47 f16_153 ((u141.past 111 rfl).trans ((u140.past 111 rfl).trans (u138.here _ rfl))) (u141.here _ rfl) rfl (news_of hb141) rfl (by omega) (by omega) ?_; intro A152 cp152 w152 a152 t152 u152 z152
    have x155 := (Touch.trans x151 (Ext.touch t141))
    have t32.here_157 := (Ext.keep t141 t32.here_145)
    have no156 := App.no t152 (lt_of t32.here_157) (fun (jQ : Nat) hQ (eQ : jQ = b26) => (fun (eQ : some b26 = _) => no27 _ eQ.symm rfl) (by rw [← eQ]; exact hQ.symm))
    have hb109_159 := (Ext.keep t141 hb109_147)
    have no158 := App.no t152 (lt_of hb109_159) (fun (jQ : Nat) hQ (eQ : jQ = b109) => (fun (eQ : some b109 = _) => no110 _ eQ.symm rfl) (by rw [← eQ]; exact hQ.symm))
    have no160 := App.no t152 (lt_of hb141) (fun (jQ : Nat) hQ (eQ : jQ = b141) => (fun (eQ : some b141 = _) => no142 _ eQ.symm rfl) (by rw [← eQ]; exact hQ.symm))
    have H117_162 := (ArenaAt.keep H117_149 t141)
    have o161 := App.out t152 (fun kQ hQ => ArenaAt.lt H117_162 hQ) o121
    have no163 := App.base t152 (Touch.size x155) hbase
    refine sp z152 rfl rfl (ex_assign (u152.here _ rfl)) ?_; intro a164 u164 z164
    have d165 := (u164.defs.trans (u152.defs.trans (u141.defs.trans (u140.defs.trans (u138.defs.trans d136)))))
    refine seq_end ?_
    repeat (with_reducible refine block_norm ?_)
    refine hK21 _ _ ?_
    have p167 := fr4 u131.past u132.past q136 u138.past
    have p168 := fr4 u140.past u141.past u152.past u164.past
    have s166_13 := ((p168 13 rfl).trans ((p167 13 rfl).trans ((p139 13 rfl).trans ((p118 13 rfl).trans ((p106 13 rfl).trans s48_13)))))
    refine rg mixed 117 [.eq (.int .i64 ((k : Int) + 1)), .eq (.int .i64 ((k : Int) + 1))] [[(13, none)], [(115, some 0)]] d165 z164 (by kernel_rfl) ⟨Ov rfl rfl fun _ _ T ⟨k13, _⟩ => ex_add64 (k13.trans s166_13) rfl (by omega), Ov rfl rfl fun _ _ T ⟨k115, _⟩ => ex_move k115, trivial⟩ ?_
    intro a169 w169 d169 z169 t169 e169 q169
    repeat (with_reducible refine block_norm ?_)
    have hgd : Okn A117 r117 ∧ ∀ v, den A117 v r117 = sem L (k : Int) v := ⟨gd117.1, fun v => by rw [gd117.2 v, sem_k2 (i := (k : Int)) hR (by omega) (by omega) v (by omega)]; simp [cubeD]⟩
    have s170_0 := ((q169 0 rfl).trans ((p168 0 rfl).trans ((p167 0 rfl).trans ((p139 0 rfl).trans ((p118 0 rfl).trans ((p106 0 rfl).trans s42_0))))))
    have s171_6 : a164.eval (.tmp 6) = .slice A152 (k + 1) cp152 := (u164.here _ rfl)
    have s172_6 := ((q169 6 rfl).trans s171_6)
    have s173_11 := ((q169 11 rfl).trans ((p168 11 rfl).trans ((p167 11 rfl).trans ((p139 11 rfl).trans ((p118 11 rfl).trans ((p106 11 rfl).trans s46_11))))))
    have s174_12 := ((q169 12 rfl).trans ((p168 12 rfl).trans ((p167 12 rfl).trans ((p139 12 rfl).trans ((p118 12 rfl).trans ((p106 12 rfl).trans s47_12))))))
    have s175_13 : a169.eval (.tmp 13) = .int .i64 ((k : Int) + 1) := e169.2.1
    have x176 := (Touch.trans (Touch.via x155 t152.touch (fun jQ hQ => Or.inr (hbase jQ hQ.symm))) (Ext.touch t169))
    have H117_177 := (ArenaAt.keep (ArenaAt.same H117_162 fun kQ hQ => t152.touch.block _ (ArenaAt.lt H117_162 hQ) (fun eQ => o121 kQ eQ.symm hQ)) t169)
    have t152.own_178 := (own_keep t152.own t169)
    refine then_norm ?_
    refine ⟨_, ⟨k + 1, _, Fp117, S1 ++ [r117], A152, cp152, rfl, d169, z169, s170_0, s172_6, s173_11, s174_12, (s175_13.trans (by first | rfl | (congr 1; omega) | (simp; omega) | simp)), x176, H117_177, (by rw [← flat_push]; exact t152.own_178), by omega, hI.step R117.pre R117.wf (gw117.eq0 hz117) hgd.1 hgd.2, hpre.trans R117.pre, R117.room, i126, o161, no163⟩, ?_⟩; (show _ < _); rw [hmu7]; exact by omega
   ·have y100 := decide_eq_false c100
    have s179_21 : a98.eval (.tmp 21) = .bool (decide (((at_ L e0 (k : Int)).k) = 2)) := e98.2.1
    refine wp_cond_false (s179_21.trans (by rw [y100])) ?_
    refine wp_seq_k fun K180 hK180 => ?_
    have s181_18 := ((q98 18 rfl).trans s97_18)
    refine rgs mixed 117 [.eq (.bool (decide (((at_ L e0 (k : Int)).k) = 3))), .eq (.bool (decide (((at_ L e0 (k : Int)).k) = 3)))] [[(18, none)], [(35, some 0)]] d98 z98 (by kernel_rfl) ⟨Ov rfl rfl fun _ _ T ⟨k18, _⟩ => ex_eql (k18.trans s181_18) rfl, Ov rfl rfl fun _ _ T ⟨k35, _⟩ => ex_assign k35, trivial⟩ ?_
    intro a182 w182 d182 z182 t182 e182 q182
    have x183 := (Touch.trans (Touch.trans x51 (Ext.touch t98)) (Ext.touch t182))
    by_cases c184 : ((at_ L e0 (k : Int)).k) = 3
    ·have y184 := decide_eq_true c184
     have s185_34 : a182.eval (.tmp 34) = .bool (decide (((at_ L e0 (k : Int)).k) = 3)) := e182.2.1
     refine wp_cond_true (s185_34.trans (by rw [y184])) ?_
     refine wp_skip ?_
     repeat (with_reducible refine block_norm ?_)
     refine hK180 _ _ ?_
     refine wp_cond_true (s185_34.trans (by rw [y184])) ?_
     have habc := hx.abc (by omega)
     refine stage_begin (fl := #[false, false, false, false, false, false, false, false, false, false, false, false, false, false, false, false, false, false, false, false]) mixed (by kernel_rfl) ?_
     intro w192 t192
     have s193_0 := ((q182 0 rfl).trans ((q98 0 rfl).trans s42_0))
     have s194_8 := ((q182 8 rfl).trans ((q98 8 rfl).trans ((q41 8 rfl).trans ((q39 8 rfl).trans s37_8))))
     have t32.here_195 := (Ext.keep t192 (Ext.keep t182 t32.here_99))
     have s196_6 := ((q182 6 rfl).trans ((q98 6 rfl).trans s45_6))
     have f16_197 := (own_keep (own_keep (own_keep f16_50 t98) t182) t192)
     refine stage 117 #[false, false, false, false, false, false, false, false, false, false, false, false, false, false, false, false, false, false, false, false] #[true, true, true, true, true, true, true, true, true, true, true, true, true, true, false, false, false, false, false, false] [.eq (.pointer (some ⟨b, 0, none⟩)), .eq (.pointer (some ⟨b26, 0, none⟩)), .eq (.int .i64 ((at_ L e0 (k : Int)).k)), .eq (.int .i64 (((at_ L e0 (k : Int)).k) - 3)), .eq (.slice Q1 k c1), .eq (.pointer (some ⟨b26, 1, none⟩)), .eq (.int .i64 ((at_ L e0 (k : Int)).a)), .eq (.pointer (some ⟨(rowB Q1), Int.toNat ((at_ L e0 (k : Int)).a) * 1, none⟩)), .eq (.int .i64 (at_ S1 (0 : Int) ((at_ L e0 (k : Int)).a))), .eq (.slice Q1 k c1), .eq (.pointer (some ⟨b26, 2, none⟩)), .eq (.int .i64 ((at_ L e0 (k : Int)).b)), .eq (.pointer (some ⟨(rowB Q1), Int.toNat ((at_ L e0 (k : Int)).b) * 1, none⟩)), .eq (.int .i64 (at_ S1 (0 : Int) ((at_ L e0 (k : Int)).b))), .any, .any, .any, .any, .any, .any] [[(0, none)], [(8, none)], [(41, some 1)], [(42, some 2)], [(6, none)], [(8, none)], [(45, some 5)], [(44, some 4), (46, some 6)], [(47, some 7)], [(6, none)], [(8, none)], [(50, some 10)], [(49, some 9), (51, some 11)], [(52, some 12)], [], [], [], [], [], []] d182 z182 (by kernel_rfl) ⟨Ov rfl rfl fun _ _ T ⟨k0, _⟩ => ex_move (k0.trans s193_0),
      Ov rfl rfl fun _ _ T ⟨k8, _⟩ => ex_fieldAddr (k8.trans s194_8) (fa_139_0 _ _ _),
      Ov rfl rfl fun _ _ T ⟨k41, _⟩ => ex_load k41 (Try.isAgg3 _) (cell_of (Ext.keep T.ext t32.here_195) rfl),
      Ov rfl rfl fun _ _ T ⟨k42, _⟩ => ex_sub64 k42 rfl (by omega),
      Ov rfl rfl fun _ _ T ⟨k6, _⟩ => ex_move (k6.trans s196_6),
      Ov rfl rfl fun _ _ T ⟨k8, _⟩ => ex_fieldAddr (k8.trans s194_8) (fa_139_1 _ _ _),
      Ov rfl rfl fun _ _ T ⟨k45, _⟩ => ex_load k45 (Try.isAgg3 _) (cell_of (Ext.keep T.ext t32.here_195) rfl),
      Ov rfl rfl fun _ _ T ⟨k44, k46, _⟩ => ex_ixa Try.underlying47 (Try.sizeOf3 _) k44 (own_eqA f16_197 (by omega)) k46 (by omega) (by omega),
      Ov rfl rfl fun _ _ T ⟨k47, _⟩ => ex_load k47 (Try.isAgg3 _) (own_at (own_keep f16_197 T.ext) (own_eqA f16_197 (by omega)) inv1_1 (at_some' (d := (0 : Int)) (hI.sl.symm) (by omega) (by omega)) 0 rfl),
      Ov rfl rfl fun _ _ T ⟨k6, _⟩ => ex_move (k6.trans s196_6),
      Ov rfl rfl fun _ _ T ⟨k8, _⟩ => ex_fieldAddr (k8.trans s194_8) (fa_139_2 _ _ _),
      Ov rfl rfl fun _ _ T ⟨k50, _⟩ => ex_load k50 (Try.isAgg3 _) (cell_of (Ext.keep T.ext t32.here_195) rfl),
      Ov rfl rfl fun _ _ T ⟨k49, k51, _⟩ => ex_ixa Try.underlying47 (Try.sizeOf3 _) k49 (own_eqA f16_197 (by omega)) k51 (by omega) (by omega),
      Ov rfl rfl fun _ _ T ⟨k52, _⟩ => ex_load k52 (Try.isAgg3 _) (own_at (own_keep f16_197 T.ext) (own_eqA f16_197 (by omega)) inv1_1 (at_some' (d := (0 : Int)) (hI.sl.symm) (by omega) (by omega)) 0 rfl),
      trivial,
      trivial,
      trivial,
      trivial,
      trivial,
      trivial,
      trivial⟩ ?_
     intro a198 w198 d198 z198 t198 e198 q198
     have f15_200 := (ArenaAt.keep (ArenaAt.keep (ArenaAt.keep (ArenaAt.keep f15_49 t98) t182) t192) t198)
     refine stage_call 117 14 #[true, true, true, true, true, true, true, true, true, true, true, true, true, true, false, false, false, false, false, false] #[true, true, true, true, true, true, true, true, true, true, true, true, true, true, true, false, false, false, false, false] z198 (by kernel_rfl) (by kernel_rfl) rfl rfl rfl (exl_call Try.func68 rfl rfl (cons_ops e198.1 (cons_ops e198.2.2.2.1 (cons_ops e198.2.2.2.2.2.2.2.2.1 (cons_ops e198.2.2.2.2.2.2.2.2.2.2.2.2.2.1 nil_ops))))) (c_Join f15_200 hI.wf hroom hm2 ((at_ L e0 (k : Int)).k - 3) _ _ (by omega) (hI.ok _ habc.1.1 (by omega)).1 (hI.ok _ habc.2.1.1 (by omega)).1) ?_
     rintro e199 w199 ⟨Fp199, A199, r199, c199, he199, H199, m199, R199, back199, more199⟩; refine ⟨_, he199, ?_⟩; intro a199 u199 z199
     have f16_201 := (own_keep f16_197 t198)
     have o202 := fun jQ hQ => Mut.out m199 (own_lt f16_201 hQ) (hout1 jQ hQ)
     have t32.here_203 := (Ext.keep t198 t32.here_195)
     have o204 := Mut.out m199 (lt_of t32.here_203) o29
     have x205 := (Touch.trans (Touch.trans x183 (Ext.touch t192)) (Ext.touch t198))
     have i206 := Mut.inF m199 x205 hin
     have d207 := (u199.defs.trans d198)
     have gw199 : Gw (varsL L 104) A1 A199 most c199 (3 * 2 ^ (varsL L 104).length) := (more199.gw hI.lv).mono (m_pow _)
     have hz199 : c199 = 0 := hI.full (by omega) gw199 hbig
     have kn208 : decide (c199 ≠ 0) = false := by rw [hz199]; rfl
     have gd199 := R199.ok.elim (fun hQ => hQ.2) (fun hQ => by omega)
     have s209_54 : a199.eval (.tmp 54) = .tuple #[.int .i64 r199, .int .i64 c199] := (u199.here _ rfl)
     refine stage 117 #[true, true, true, true, true, true, true, true, true, true, true, true, true, true, true, false, false, false, false, false] #[true, true, true, true, true, true, true, true, true, true, true, true, true, true, true, true, true, true, true, true] [.any, .any, .any, .any, .any, .any, .any, .any, .any, .any, .any, .any, .any, .any, .any, .eq (.tuple #[.int .i64 r199, .int .i64 c199]), .eq (.int .i64 r199), .eq (.int .i64 c199), .eq (.int .i64 r199), .eq (.int .i64 c199)] [[], [], [], [], [], [], [], [], [], [], [], [], [], [], [], [(54, none)], [(39, some 15)], [(39, some 15)], [(55, some 16)], [(56, some 17)]] d207 z199 (by kernel_rfl) ⟨trivial,
      trivial,
      trivial,
      trivial,
      trivial,
      trivial,
      trivial,
      trivial,
      trivial,
      trivial,
      trivial,
      trivial,
      trivial,
      trivial,
      trivial,
      Ov rfl rfl fun _ _ T ⟨k54, _⟩ => ex_move (k54.trans s209_54),
      Ov rfl rfl fun _ _ T ⟨k39, _⟩ => ex_extract k39 rfl,
      Ov rfl rfl fun _ _ T ⟨k39, _⟩ => ex_extract k39 rfl,
      Ov rfl rfl fun _ _ T ⟨k55, _⟩ => ex_assign k55,
      Ov rfl rfl fun _ _ T ⟨k56, _⟩ => ex_assign k56,
      trivial⟩ ?_
     intro a210 w210 d210 z210 t210 e210 q210
     refine stage_end (by kernel_rfl) ?_
     repeat (with_reducible refine block_norm ?_)
     refine hK35 _ _ ?_
     refine wp_seq_k fun K211 hK211 => ?_
     have s212_10 : a210.eval (.tmp 10) = .int .i64 c199 := e210.2.2.2.2.2.2.2.2.2.2.2.2.2.2.2.2.2.2.2.1
     refine rgs mixed 117 [.eq (.int .i64 c199), .eq (.bool (decide (c199 ≠ 0)))] [[(10, none)], [(107, some 0)]] d210 z210 (by kernel_rfl) ⟨Ov rfl rfl fun _ _ T ⟨k10, _⟩ => ex_move (k10.trans s212_10), Ov rfl rfl fun _ _ T ⟨k107, _⟩ => ex_neq k107 rfl, trivial⟩ ?_
     intro a213 w213 d213 z213 t213 e213 q213
     have s214_108 : a213.eval (.tmp 108) = .bool (decide (c199 ≠ 0)) := e213.2.1
     refine wp_cond_false (s214_108.trans (by rw [kn208])) ?_
     refine wp_skip ?_
     repeat (with_reducible refine block_norm ?_)
     refine hK211 _ _ ?_
     refine seq_begin ?_
     refine sp z213 rfl rfl (ex_move ((q213 6 rfl).trans ((q210 6 rfl).trans ((u199.past 6 rfl).trans ((q198 6 rfl).trans s196_6))))) ?_; intro a215 u215 z215
     refine sp z215 rfl rfl (ex_move ((u215.past 9 rfl).trans ((q213 9 rfl).trans e210.2.2.2.2.2.2.2.2.2.2.2.2.2.2.2.2.2.2.1))) ?_; intro a216 u216 z216
     refine snew (mk := fun bQ => .slice (some ⟨bQ, 0, none⟩) 1 1) z216 rfl rfl (exl_buildSlice (cons_parts (u216.here _ rfl) nil_parts) (bs_47_1_0Ii64 r199 _)) ?_; intro b217 w217 a217 t217 g217 hb217 u217 z217
     have f16_219 := (own_keep (own_keep (Mut.own m199 f16_201 hout1) t210) t213)
     have no218 := no_new f16_219 g217
     have t32.here_221 := (Ext.keep t213 (Ext.keep t210 (Mut.keep m199 t32.here_203 o29)))
     have n220_b26_b217 := ne_lt (lt_of t32.here_221) g217
     have H199_223 := (ArenaAt.keep (ArenaAt.keep H199 t210) t213)
     have o222 : ¬ Fp199 b217 := fun hQ => by have := ArenaAt.lt H199_223 hQ; omega
     have x225 := (Touch.trans (Touch.trans (Touch.mut x205 m199 hin) (Ext.touch t210)) (Ext.touch t213))
     have yb217_224 := Nat.le_trans (Touch.size x225) g217
     have f16_227 := (own_keep f16_219 t217)
     refine sapp (m := 1) (news := [.int .i64 r199]) z217 rfl el_47 f16_227 ((u217.past 111 rfl).trans ((u216.past 111 rfl).trans (u215.here _ rfl))) (u217.here _ rfl) rfl (news_of hb217) rfl (by omega) (by omega) ?_; intro A226 cp226 w226 a226 t226 u226 z226
     have x229 := (Touch.trans x225 (Ext.touch t217))
     have t32.here_231 := (Ext.keep t217 t32.here_221)
     have no230 := App.no t226 (lt_of t32.here_231) (fun (jQ : Nat) hQ (eQ : jQ = b26) => (fun (eQ : some b26 = _) => no27 _ eQ.symm rfl) (by rw [← eQ]; exact hQ.symm))
     have no232 := App.no t226 (lt_of hb217) (fun (jQ : Nat) hQ (eQ : jQ = b217) => (fun (eQ : some b217 = _) => no218 _ eQ.symm rfl) (by rw [← eQ]; exact hQ.symm))
     have H199_234 := (ArenaAt.keep H199_223 t217)
     have o233 := App.out t226 (fun kQ hQ => ArenaAt.lt H199_234 hQ) o202
     have no235 := App.base t226 (Touch.size x229) hbase
     refine sp z226 rfl rfl (ex_assign (u226.here _ rfl)) ?_; intro a236 u236 z236
     have d237 := (u236.defs.trans (u226.defs.trans (u217.defs.trans (u216.defs.trans (u215.defs.trans d213)))))
     refine seq_end ?_
     repeat (with_reducible refine block_norm ?_)
     refine hK21 _ _ ?_
     have p239 := fr4 q98 q182 q198 u199.past
     have p240 := fr4 q210 q213 u215.past u216.past
     have s238_13 := ((u236.past 13 rfl).trans ((u226.past 13 rfl).trans ((u217.past 13 rfl).trans ((p240 13 rfl).trans ((p239 13 rfl).trans s48_13)))))
     refine rg mixed 117 [.eq (.int .i64 ((k : Int) + 1)), .eq (.int .i64 ((k : Int) + 1))] [[(13, none)], [(115, some 0)]] d237 z236 (by kernel_rfl) ⟨Ov rfl rfl fun _ _ T ⟨k13, _⟩ => ex_add64 (k13.trans s238_13) rfl (by omega), Ov rfl rfl fun _ _ T ⟨k115, _⟩ => ex_move k115, trivial⟩ ?_
     intro a241 w241 d241 z241 t241 e241 q241
     repeat (with_reducible refine block_norm ?_)
     have hgd : Okn A199 r199 ∧ ∀ v, den A199 v r199 = sem L (k : Int) v := ⟨gd199.1, fun v => by rw [gd199.2.1 v, (hI.ok _ habc.1.1 (by omega)).2 v, (hI.ok _ habc.2.1.1 (by omega)).2 v, sem_kj (i := (k : Int)) hR (by omega) (by omega) v (by omega) (by omega)]⟩
     have p243 := fr4 u217.past u226.past u236.past q241
     have s242_0 := ((p243 0 rfl).trans ((p240 0 rfl).trans ((u199.past 0 rfl).trans ((q198 0 rfl).trans s193_0))))
     have s244_6 : a236.eval (.tmp 6) = .slice A226 (k + 1) cp226 := (u236.here _ rfl)
     have s245_6 := ((q241 6 rfl).trans s244_6)
     have s246_11 := ((p243 11 rfl).trans ((p240 11 rfl).trans ((p239 11 rfl).trans s46_11)))
     have s247_12 := ((p243 12 rfl).trans ((p240 12 rfl).trans ((p239 12 rfl).trans s47_12)))
     have s248_13 : a241.eval (.tmp 13) = .int .i64 ((k : Int) + 1) := e241.2.1
     have x249 := (Touch.trans (Touch.via x229 t226.touch (fun jQ hQ => Or.inr (hbase jQ hQ.symm))) (Ext.touch t241))
     have H199_250 := (ArenaAt.keep (ArenaAt.same H199_234 fun kQ hQ => t226.touch.block _ (ArenaAt.lt H199_234 hQ) (fun eQ => o202 kQ eQ.symm hQ)) t241)
     have t226.own_251 := (own_keep t226.own t241)
     refine then_norm ?_
     refine ⟨_, ⟨k + 1, _, Fp199, S1 ++ [r199], A226, cp226, rfl, d241, z241, s242_0, s245_6, s246_11, s247_12, (s248_13.trans (by first | rfl | (congr 1; omega) | (simp; omega) | simp)), x249, H199_250, (by rw [← flat_push]; exact t226.own_251), by omega, hI.step R199.pre R199.wf (gw199.eq0 hz199) hgd.1 hgd.2, hpre.trans R199.pre, R199.room, i206, o233, no235⟩, ?_⟩; (show _ < _); rw [hmu7]; exact by omega
    ·have y184 := decide_eq_false c184
     have s252_34 : a182.eval (.tmp 34) = .bool (decide (((at_ L e0 (k : Int)).k) = 3)) := e182.2.1
     refine wp_cond_false (s252_34.trans (by rw [y184])) ?_
     have s253_18 := ((q182 18 rfl).trans s181_18)
     refine rgs mixed 117 [.eq (.bool (decide (((at_ L e0 (k : Int)).k) = 4))), .eq (.bool (decide (((at_ L e0 (k : Int)).k) = 4)))] [[(18, none)], [(36, some 0)]] d182 z182 (by kernel_rfl) ⟨Ov rfl rfl fun _ _ T ⟨k18, _⟩ => ex_eql (k18.trans s253_18) rfl, Ov rfl rfl fun _ _ T ⟨k36, _⟩ => ex_assign k36, trivial⟩ ?_
     intro a254 w254 d254 z254 t254 e254 q254
     have s255_0 := ((q254 0 rfl).trans ((q182 0 rfl).trans ((q98 0 rfl).trans s42_0)))
     have s256_6 := ((q254 6 rfl).trans ((q182 6 rfl).trans ((q98 6 rfl).trans s45_6)))
     have s257_11 := ((q254 11 rfl).trans ((q182 11 rfl).trans ((q98 11 rfl).trans s46_11)))
     have s258_12 := ((q254 12 rfl).trans ((q182 12 rfl).trans ((q98 12 rfl).trans s47_12)))
     have s259_13 := ((q254 13 rfl).trans ((q182 13 rfl).trans ((q98 13 rfl).trans s48_13)))
     have f15_260 := (ArenaAt.keep (ArenaAt.keep (ArenaAt.keep f15_49 t98) t182) t254)
     have f16_261 := (own_keep (own_keep (own_keep f16_50 t98) t182) t254)
     by_cases c262 : ((at_ L e0 (k : Int)).k) = 4
     ·have y262 := decide_eq_true c262
      have s263_34 : a254.eval (.tmp 34) = .bool (decide (((at_ L e0 (k : Int)).k) = 4)) := e254.2.1
      refine wp_cond_true (s263_34.trans (by rw [y262])) ?_
      refine wp_skip ?_
      repeat (with_reducible refine block_norm ?_)
      refine hK180 _ _ ?_
      refine wp_cond_true (s263_34.trans (by rw [y262])) ?_
      have habc := hx.abc (by omega)
      refine stage_begin (fl := #[false, false, false, false, false, false, false, false, false, false, false, false, false, false, false, false, false, false, false, false]) mixed (by kernel_rfl) ?_
      intro w266 t266
      have s267_8 := ((q254 8 rfl).trans ((q182 8 rfl).trans ((q98 8 rfl).trans ((q41 8 rfl).trans ((q39 8 rfl).trans s37_8)))))
      have t32.here_268 := (Ext.keep t266 (Ext.keep t254 (Ext.keep t182 t32.here_99)))
      have f16_269 := (own_keep f16_261 t266)
      refine stage 117 #[false, false, false, false, false, false, false, false, false, false, false, false, false, false, false, false, false, false, false, false] #[true, true, true, true, true, true, true, true, true, true, true, true, true, true, false, false, false, false, false, false] [.eq (.pointer (some ⟨b, 0, none⟩)), .eq (.pointer (some ⟨b26, 0, none⟩)), .eq (.int .i64 ((at_ L e0 (k : Int)).k)), .eq (.int .i64 (((at_ L e0 (k : Int)).k) - 3)), .eq (.slice Q1 k c1), .eq (.pointer (some ⟨b26, 1, none⟩)), .eq (.int .i64 ((at_ L e0 (k : Int)).a)), .eq (.pointer (some ⟨(rowB Q1), Int.toNat ((at_ L e0 (k : Int)).a) * 1, none⟩)), .eq (.int .i64 (at_ S1 (0 : Int) ((at_ L e0 (k : Int)).a))), .eq (.slice Q1 k c1), .eq (.pointer (some ⟨b26, 2, none⟩)), .eq (.int .i64 ((at_ L e0 (k : Int)).b)), .eq (.pointer (some ⟨(rowB Q1), Int.toNat ((at_ L e0 (k : Int)).b) * 1, none⟩)), .eq (.int .i64 (at_ S1 (0 : Int) ((at_ L e0 (k : Int)).b))), .any, .any, .any, .any, .any, .any] [[(0, none)], [(8, none)], [(41, some 1)], [(42, some 2)], [(6, none)], [(8, none)], [(45, some 5)], [(44, some 4), (46, some 6)], [(47, some 7)], [(6, none)], [(8, none)], [(50, some 10)], [(49, some 9), (51, some 11)], [(52, some 12)], [], [], [], [], [], []] d254 z254 (by kernel_rfl) ⟨Ov rfl rfl fun _ _ T ⟨k0, _⟩ => ex_move (k0.trans s255_0),
       Ov rfl rfl fun _ _ T ⟨k8, _⟩ => ex_fieldAddr (k8.trans s267_8) (fa_139_0 _ _ _),
       Ov rfl rfl fun _ _ T ⟨k41, _⟩ => ex_load k41 (Try.isAgg3 _) (cell_of (Ext.keep T.ext t32.here_268) rfl),
       Ov rfl rfl fun _ _ T ⟨k42, _⟩ => ex_sub64 k42 rfl (by omega),
       Ov rfl rfl fun _ _ T ⟨k6, _⟩ => ex_move (k6.trans s256_6),
       Ov rfl rfl fun _ _ T ⟨k8, _⟩ => ex_fieldAddr (k8.trans s267_8) (fa_139_1 _ _ _),
       Ov rfl rfl fun _ _ T ⟨k45, _⟩ => ex_load k45 (Try.isAgg3 _) (cell_of (Ext.keep T.ext t32.here_268) rfl),
       Ov rfl rfl fun _ _ T ⟨k44, k46, _⟩ => ex_ixa Try.underlying47 (Try.sizeOf3 _) k44 (own_eqA f16_269 (by omega)) k46 (by omega) (by omega),
       Ov rfl rfl fun _ _ T ⟨k47, _⟩ => ex_load k47 (Try.isAgg3 _) (own_at (own_keep f16_269 T.ext) (own_eqA f16_269 (by omega)) inv1_1 (at_some' (d := (0 : Int)) (hI.sl.symm) (by omega) (by omega)) 0 rfl),
       Ov rfl rfl fun _ _ T ⟨k6, _⟩ => ex_move (k6.trans s256_6),
       Ov rfl rfl fun _ _ T ⟨k8, _⟩ => ex_fieldAddr (k8.trans s267_8) (fa_139_2 _ _ _),
       Ov rfl rfl fun _ _ T ⟨k50, _⟩ => ex_load k50 (Try.isAgg3 _) (cell_of (Ext.keep T.ext t32.here_268) rfl),
       Ov rfl rfl fun _ _ T ⟨k49, k51, _⟩ => ex_ixa Try.underlying47 (Try.sizeOf3 _) k49 (own_eqA f16_269 (by omega)) k51 (by omega) (by omega),
       Ov rfl rfl fun _ _ T ⟨k52, _⟩ => ex_load k52 (Try.isAgg3 _) (own_at (own_keep f16_269 T.ext) (own_eqA f16_269 (by omega)) inv1_1 (at_some' (d := (0 : Int)) (hI.sl.symm) (by omega) (by omega)) 0 rfl),
       trivial,
       trivial,
       trivial,
       trivial,
       trivial,
       trivial,
       trivial⟩ ?_
      intro a270 w270 d270 z270 t270 e270 q270
      have f15_272 := (ArenaAt.keep (ArenaAt.keep f15_260 t266) t270)
      refine stage_call 117 14 #[true, true, true, true, true, true, true, true, true, true, true, true, true, true, false, false, false, false, false, false] #[true, true, true, true, true, true, true, true, true, true, true, true, true, true, true, false, false, false, false, false] z270 (by kernel_rfl) (by kernel_rfl) rfl rfl rfl (exl_call Try.func68 rfl rfl (cons_ops e270.1 (cons_ops e270.2.2.2.1 (cons_ops e270.2.2.2.2.2.2.2.2.1 (cons_ops e270.2.2.2.2.2.2.2.2.2.2.2.2.2.1 nil_ops))))) (c_Join f15_272 hI.wf hroom hm2 ((at_ L e0 (k : Int)).k - 3) _ _ (by omega) (hI.ok _ habc.1.1 (by omega)).1 (hI.ok _ habc.2.1.1 (by omega)).1) ?_
      rintro e271 w271 ⟨Fp271, A271, r271, c271, he271, H271, m271, R271, back271, more271⟩; refine ⟨_, he271, ?_⟩; intro a271 u271 z271
      have f16_273 := (own_keep f16_269 t270)
      have o274 := fun jQ hQ => Mut.out m271 (own_lt f16_273 hQ) (hout1 jQ hQ)
      have t32.here_275 := (Ext.keep t270 t32.here_268)
      have o276 := Mut.out m271 (lt_of t32.here_275) o29
      have x277 := (Touch.trans (Touch.trans (Touch.trans x183 (Ext.touch t254)) (Ext.touch t266)) (Ext.touch t270))
      have i278 := Mut.inF m271 x277 hin
      have d279 := (u271.defs.trans d270)
      have gw271 : Gw (varsL L 104) A1 A271 most c271 (3 * 2 ^ (varsL L 104).length) := (more271.gw hI.lv).mono (m_pow _)
      have hz271 : c271 = 0 := hI.full (by omega) gw271 hbig
      have kn280 : decide (c271 ≠ 0) = false := by rw [hz271]; rfl
      have gd271 := R271.ok.elim (fun hQ => hQ.2) (fun hQ => by omega)
      have s281_54 : a271.eval (.tmp 54) = .tuple #[.int .i64 r271, .int .i64 c271] := (u271.here _ rfl)
      refine stage 117 #[true, true, true, true, true, true, true, true, true, true, true, true, true, true, true, false, false, false, false, false] #[true, true, true, true, true, true, true, true, true, true, true, true, true, true, true, true, true, true, true, true] [.any, .any, .any, .any, .any, .any, .any, .any, .any, .any, .any, .any, .any, .any, .any, .eq (.tuple #[.int .i64 r271, .int .i64 c271]), .eq (.int .i64 r271), .eq (.int .i64 c271), .eq (.int .i64 r271), .eq (.int .i64 c271)] [[], [], [], [], [], [], [], [], [], [], [], [], [], [], [], [(54, none)], [(39, some 15)], [(39, some 15)], [(55, some 16)], [(56, some 17)]] d279 z271 (by kernel_rfl) ⟨trivial,
       trivial,
       trivial,
       trivial,
       trivial,
       trivial,
       trivial,
       trivial,
       trivial,
       trivial,
       trivial,
       trivial,
       trivial,
       trivial,
       trivial,
       Ov rfl rfl fun _ _ T ⟨k54, _⟩ => ex_move (k54.trans s281_54),
       Ov rfl rfl fun _ _ T ⟨k39, _⟩ => ex_extract k39 rfl,
       Ov rfl rfl fun _ _ T ⟨k39, _⟩ => ex_extract k39 rfl,
       Ov rfl rfl fun _ _ T ⟨k55, _⟩ => ex_assign k55,
       Ov rfl rfl fun _ _ T ⟨k56, _⟩ => ex_assign k56,
       trivial⟩ ?_
      intro a282 w282 d282 z282 t282 e282 q282
      refine stage_end (by kernel_rfl) ?_
      repeat (with_reducible refine block_norm ?_)
      refine hK35 _ _ ?_
      refine wp_seq_k fun K283 hK283 => ?_
      have s284_10 : a282.eval (.tmp 10) = .int .i64 c271 := e282.2.2.2.2.2.2.2.2.2.2.2.2.2.2.2.2.2.2.2.1
      refine rgs mixed 117 [.eq (.int .i64 c271), .eq (.bool (decide (c271 ≠ 0)))] [[(10, none)], [(107, some 0)]] d282 z282 (by kernel_rfl) ⟨Ov rfl rfl fun _ _ T ⟨k10, _⟩ => ex_move (k10.trans s284_10), Ov rfl rfl fun _ _ T ⟨k107, _⟩ => ex_neq k107 rfl, trivial⟩ ?_
      intro a285 w285 d285 z285 t285 e285 q285
      have s286_108 : a285.eval (.tmp 108) = .bool (decide (c271 ≠ 0)) := e285.2.1
      refine wp_cond_false (s286_108.trans (by rw [kn280])) ?_
      refine wp_skip ?_
      repeat (with_reducible refine block_norm ?_)
      refine hK283 _ _ ?_
      refine seq_begin ?_
      refine sp z285 rfl rfl (ex_move ((q285 6 rfl).trans ((q282 6 rfl).trans ((u271.past 6 rfl).trans ((q270 6 rfl).trans s256_6))))) ?_; intro a287 u287 z287
      refine sp z287 rfl rfl (ex_move ((u287.past 9 rfl).trans ((q285 9 rfl).trans e282.2.2.2.2.2.2.2.2.2.2.2.2.2.2.2.2.2.2.1))) ?_; intro a288 u288 z288
      refine snew (mk := fun bQ => .slice (some ⟨bQ, 0, none⟩) 1 1) z288 rfl rfl (exl_buildSlice (cons_parts (u288.here _ rfl) nil_parts) (bs_47_1_0Ii64 r271 _)) ?_; intro b289 w289 a289 t289 g289 hb289 u289 z289
      have f16_291 := (own_keep (own_keep (Mut.own m271 f16_273 hout1) t282) t285)
      have no290 := no_new f16_291 g289
      have t32.here_293 := (Ext.keep t285 (Ext.keep t282 (Mut.keep m271 t32.here_275 o29)))
      have n292_b26_b289 := ne_lt (lt_of t32.here_293) g289
      have H271_295 := (ArenaAt.keep (ArenaAt.keep H271 t282) t285)
      have o294 : ¬ Fp271 b289 := fun hQ => by have := ArenaAt.lt H271_295 hQ; omega
      have x297 := (Touch.trans (Touch.trans (Touch.mut x277 m271 hin) (Ext.touch t282)) (Ext.touch t285))
      have yb289_296 := Nat.le_trans (Touch.size x297) g289
      have f16_299 := (own_keep f16_291 t289)
      refine sapp (m := 1) (news := [.int .i64 r271]) z289 rfl el_47 f16_299 ((u289.past 111 rfl).trans ((u288.past 111 rfl).trans (u287.here _ rfl))) (u289.here _ rfl) rfl (news_of hb289) rfl (by omega) (by omega) ?_; intro A298 cp298 w298 a298 t298 u298 z298
      have x301 := (Touch.trans x297 (Ext.touch t289))
      have t32.here_303 := (Ext.keep t289 t32.here_293)
      have no302 := App.no t298 (lt_of t32.here_303) (fun (jQ : Nat) hQ (eQ : jQ = b26) => (fun (eQ : some b26 = _) => no27 _ eQ.symm rfl) (by rw [← eQ]; exact hQ.symm))
      have no304 := App.no t298 (lt_of hb289) (fun (jQ : Nat) hQ (eQ : jQ = b289) => (fun (eQ : some b289 = _) => no290 _ eQ.symm rfl) (by rw [← eQ]; exact hQ.symm))
      have H271_306 := (ArenaAt.keep H271_295 t289)
      have o305 := App.out t298 (fun kQ hQ => ArenaAt.lt H271_306 hQ) o274
      have no307 := App.base t298 (Touch.size x301) hbase
      refine sp z298 rfl rfl (ex_assign (u298.here _ rfl)) ?_; intro a308 u308 z308
      have d309 := (u308.defs.trans (u298.defs.trans (u289.defs.trans (u288.defs.trans (u287.defs.trans d285)))))
      refine seq_end ?_
      repeat (with_reducible refine block_norm ?_)
      refine hK21 _ _ ?_
      have p311 := fr4 u271.past q282 q285 u287.past
      have p312 := fr4 u288.past u289.past u298.past u308.past
      have s310_13 := ((p312 13 rfl).trans ((p311 13 rfl).trans ((q270 13 rfl).trans s259_13)))
      refine rg mixed 117 [.eq (.int .i64 ((k : Int) + 1)), .eq (.int .i64 ((k : Int) + 1))] [[(13, none)], [(115, some 0)]] d309 z308 (by kernel_rfl) ⟨Ov rfl rfl fun _ _ T ⟨k13, _⟩ => ex_add64 (k13.trans s310_13) rfl (by omega), Ov rfl rfl fun _ _ T ⟨k115, _⟩ => ex_move k115, trivial⟩ ?_
      intro a313 w313 d313 z313 t313 e313 q313
      repeat (with_reducible refine block_norm ?_)
      have hgd : Okn A271 r271 ∧ ∀ v, den A271 v r271 = sem L (k : Int) v := ⟨gd271.1, fun v => by rw [gd271.2.1 v, (hI.ok _ habc.1.1 (by omega)).2 v, (hI.ok _ habc.2.1.1 (by omega)).2 v, sem_kj (i := (k : Int)) hR (by omega) (by omega) v (by omega) (by omega)]⟩
      have s314_0 := ((q313 0 rfl).trans ((p312 0 rfl).trans ((p311 0 rfl).trans ((q270 0 rfl).trans s255_0))))
      have s315_6 : a308.eval (.tmp 6) = .slice A298 (k + 1) cp298 := (u308.here _ rfl)
      have s316_6 := ((q313 6 rfl).trans s315_6)
      have s317_11 := ((q313 11 rfl).trans ((p312 11 rfl).trans ((p311 11 rfl).trans ((q270 11 rfl).trans s257_11))))
      have s318_12 := ((q313 12 rfl).trans ((p312 12 rfl).trans ((p311 12 rfl).trans ((q270 12 rfl).trans s258_12))))
      have s319_13 : a313.eval (.tmp 13) = .int .i64 ((k : Int) + 1) := e313.2.1
      have x320 := (Touch.trans (Touch.via x301 t298.touch (fun jQ hQ => Or.inr (hbase jQ hQ.symm))) (Ext.touch t313))
      have H271_321 := (ArenaAt.keep (ArenaAt.same H271_306 fun kQ hQ => t298.touch.block _ (ArenaAt.lt H271_306 hQ) (fun eQ => o274 kQ eQ.symm hQ)) t313)
      have t298.own_322 := (own_keep t298.own t313)
      refine then_norm ?_
      refine ⟨_, ⟨k + 1, _, Fp271, S1 ++ [r271], A298, cp298, rfl, d313, z313, s314_0, s316_6, s317_11, s318_12, (s319_13.trans (by first | rfl | (congr 1; omega) | (simp; omega) | simp)), x320, H271_321, (by rw [← flat_push]; exact t298.own_322), by omega, hI.step R271.pre R271.wf (gw271.eq0 hz271) hgd.1 hgd.2, hpre.trans R271.pre, R271.room, i278, o305, no307⟩, ?_⟩; (show _ < _); rw [hmu7]; exact by omega
     ·have y262 := decide_eq_false c262
      have s323_34 : a254.eval (.tmp 34) = .bool (decide (((at_ L e0 (k : Int)).k) = 4)) := e254.2.1
      refine wp_cond_false (s323_34.trans (by rw [y262])) ?_
      have s324_18 := ((q254 18 rfl).trans s253_18)
      refine rgs mixed 117 [.eq (.bool (decide (((at_ L e0 (k : Int)).k) = 5))), .eq (.bool (decide (((at_ L e0 (k : Int)).k) = 5)))] [[(18, none)], [(37, some 0)]] d254 z254 (by kernel_rfl) ⟨Ov rfl rfl fun _ _ T ⟨k18, _⟩ => ex_eql (k18.trans s324_18) rfl, Ov rfl rfl fun _ _ T ⟨k37, _⟩ => ex_assign k37, trivial⟩ ?_
      intro a325 w325 d325 z325 t325 e325 q325
      have t32.here_326 := (Ext.keep t325 (Ext.keep t254 (Ext.keep t182 t32.here_99)))
      have x327 := (Touch.trans (Touch.trans x183 (Ext.touch t254)) (Ext.touch t325))
      by_cases c328 : ((at_ L e0 (k : Int)).k) = 5
      ·have y328 := decide_eq_true c328
       have s329_34 : a325.eval (.tmp 34) = .bool (decide (((at_ L e0 (k : Int)).k) = 5)) := e325.2.1
       refine wp_cond_true (s329_34.trans (by rw [y328])) ?_
       refine wp_skip ?_
       repeat (with_reducible refine block_norm ?_)
       refine hK180 _ _ ?_
       refine wp_cond_true (s329_34.trans (by rw [y328])) ?_
       have habc := hx.abc (by omega)
       refine stage_begin (fl := #[false, false, false, false, false, false, false, false, false, false, false, false, false, false, false, false, false, false, false, false]) mixed (by kernel_rfl) ?_
       intro w336 t336
       have s337_0 := ((q325 0 rfl).trans s255_0)
       have p339 := fr4 q98 q182 q254 q325
       have s338_8 := ((p339 8 rfl).trans ((q41 8 rfl).trans ((q39 8 rfl).trans s37_8)))
       have t32.here_340 := (Ext.keep t336 t32.here_326)
       have s341_6 := ((q325 6 rfl).trans s256_6)
       have f16_342 := (own_keep (own_keep f16_261 t325) t336)
       refine stage 117 #[false, false, false, false, false, false, false, false, false, false, false, false, false, false, false, false, false, false, false, false] #[true, true, true, true, true, true, true, true, true, true, true, true, true, true, false, false, false, false, false, false] [.eq (.pointer (some ⟨b, 0, none⟩)), .eq (.pointer (some ⟨b26, 0, none⟩)), .eq (.int .i64 ((at_ L e0 (k : Int)).k)), .eq (.int .i64 (((at_ L e0 (k : Int)).k) - 3)), .eq (.slice Q1 k c1), .eq (.pointer (some ⟨b26, 1, none⟩)), .eq (.int .i64 ((at_ L e0 (k : Int)).a)), .eq (.pointer (some ⟨(rowB Q1), Int.toNat ((at_ L e0 (k : Int)).a) * 1, none⟩)), .eq (.int .i64 (at_ S1 (0 : Int) ((at_ L e0 (k : Int)).a))), .eq (.slice Q1 k c1), .eq (.pointer (some ⟨b26, 2, none⟩)), .eq (.int .i64 ((at_ L e0 (k : Int)).b)), .eq (.pointer (some ⟨(rowB Q1), Int.toNat ((at_ L e0 (k : Int)).b) * 1, none⟩)), .eq (.int .i64 (at_ S1 (0 : Int) ((at_ L e0 (k : Int)).b))), .any, .any, .any, .any, .any, .any] [[(0, none)], [(8, none)], [(41, some 1)], [(42, some 2)], [(6, none)], [(8, none)], [(45, some 5)], [(44, some 4), (46, some 6)], [(47, some 7)], [(6, none)], [(8, none)], [(50, some 10)], [(49, some 9), (51, some 11)], [(52, some 12)], [], [], [], [], [], []] d325 z325 (by kernel_rfl) ⟨Ov rfl rfl fun _ _ T ⟨k0, _⟩ => ex_move (k0.trans s337_0),
        Ov rfl rfl fun _ _ T ⟨k8, _⟩ => ex_fieldAddr (k8.trans s338_8) (fa_139_0 _ _ _),
        Ov rfl rfl fun _ _ T ⟨k41, _⟩ => ex_load k41 (Try.isAgg3 _) (cell_of (Ext.keep T.ext t32.here_340) rfl),
        Ov rfl rfl fun _ _ T ⟨k42, _⟩ => ex_sub64 k42 rfl (by omega),
        Ov rfl rfl fun _ _ T ⟨k6, _⟩ => ex_move (k6.trans s341_6),
        Ov rfl rfl fun _ _ T ⟨k8, _⟩ => ex_fieldAddr (k8.trans s338_8) (fa_139_1 _ _ _),
        Ov rfl rfl fun _ _ T ⟨k45, _⟩ => ex_load k45 (Try.isAgg3 _) (cell_of (Ext.keep T.ext t32.here_340) rfl),
        Ov rfl rfl fun _ _ T ⟨k44, k46, _⟩ => ex_ixa Try.underlying47 (Try.sizeOf3 _) k44 (own_eqA f16_342 (by omega)) k46 (by omega) (by omega),
        Ov rfl rfl fun _ _ T ⟨k47, _⟩ => ex_load k47 (Try.isAgg3 _) (own_at (own_keep f16_342 T.ext) (own_eqA f16_342 (by omega)) inv1_1 (at_some' (d := (0 : Int)) (hI.sl.symm) (by omega) (by omega)) 0 rfl),
        Ov rfl rfl fun _ _ T ⟨k6, _⟩ => ex_move (k6.trans s341_6),
        Ov rfl rfl fun _ _ T ⟨k8, _⟩ => ex_fieldAddr (k8.trans s338_8) (fa_139_2 _ _ _),
        Ov rfl rfl fun _ _ T ⟨k50, _⟩ => ex_load k50 (Try.isAgg3 _) (cell_of (Ext.keep T.ext t32.here_340) rfl),
        Ov rfl rfl fun _ _ T ⟨k49, k51, _⟩ => ex_ixa Try.underlying47 (Try.sizeOf3 _) k49 (own_eqA f16_342 (by omega)) k51 (by omega) (by omega),
        Ov rfl rfl fun _ _ T ⟨k52, _⟩ => ex_load k52 (Try.isAgg3 _) (own_at (own_keep f16_342 T.ext) (own_eqA f16_342 (by omega)) inv1_1 (at_some' (d := (0 : Int)) (hI.sl.symm) (by omega) (by omega)) 0 rfl),
        trivial,
        trivial,
        trivial,
        trivial,
        trivial,
        trivial,
        trivial⟩ ?_
       intro a343 w343 d343 z343 t343 e343 q343
       have f15_345 := (ArenaAt.keep (ArenaAt.keep (ArenaAt.keep f15_260 t325) t336) t343)
       refine stage_call 117 14 #[true, true, true, true, true, true, true, true, true, true, true, true, true, true, false, false, false, false, false, false] #[true, true, true, true, true, true, true, true, true, true, true, true, true, true, true, false, false, false, false, false] z343 (by kernel_rfl) (by kernel_rfl) rfl rfl rfl (exl_call Try.func68 rfl rfl (cons_ops e343.1 (cons_ops e343.2.2.2.1 (cons_ops e343.2.2.2.2.2.2.2.2.1 (cons_ops e343.2.2.2.2.2.2.2.2.2.2.2.2.2.1 nil_ops))))) (c_Join f15_345 hI.wf hroom hm2 ((at_ L e0 (k : Int)).k - 3) _ _ (by omega) (hI.ok _ habc.1.1 (by omega)).1 (hI.ok _ habc.2.1.1 (by omega)).1) ?_
       rintro e344 w344 ⟨Fp344, A344, r344, c344, he344, H344, m344, R344, back344, more344⟩; refine ⟨_, he344, ?_⟩; intro a344 u344 z344
       have f16_346 := (own_keep f16_342 t343)
       have o347 := fun jQ hQ => Mut.out m344 (own_lt f16_346 hQ) (hout1 jQ hQ)
       have t32.here_348 := (Ext.keep t343 t32.here_340)
       have o349 := Mut.out m344 (lt_of t32.here_348) o29
       have x350 := (Touch.trans (Touch.trans x327 (Ext.touch t336)) (Ext.touch t343))
       have i351 := Mut.inF m344 x350 hin
       have d352 := (u344.defs.trans d343)
       have gw344 : Gw (varsL L 104) A1 A344 most c344 (3 * 2 ^ (varsL L 104).length) := (more344.gw hI.lv).mono (m_pow _)
       have hz344 : c344 = 0 := hI.full (by omega) gw344 hbig
       have kn353 : decide (c344 ≠ 0) = false := by rw [hz344]; rfl
       have gd344 := R344.ok.elim (fun hQ => hQ.2) (fun hQ => by omega)
       have s354_54 : a344.eval (.tmp 54) = .tuple #[.int .i64 r344, .int .i64 c344] := (u344.here _ rfl)
       refine stage 117 #[true, true, true, true, true, true, true, true, true, true, true, true, true, true, true, false, false, false, false, false] #[true, true, true, true, true, true, true, true, true, true, true, true, true, true, true, true, true, true, true, true] [.any, .any, .any, .any, .any, .any, .any, .any, .any, .any, .any, .any, .any, .any, .any, .eq (.tuple #[.int .i64 r344, .int .i64 c344]), .eq (.int .i64 r344), .eq (.int .i64 c344), .eq (.int .i64 r344), .eq (.int .i64 c344)] [[], [], [], [], [], [], [], [], [], [], [], [], [], [], [], [(54, none)], [(39, some 15)], [(39, some 15)], [(55, some 16)], [(56, some 17)]] d352 z344 (by kernel_rfl) ⟨trivial,
        trivial,
        trivial,
        trivial,
        trivial,
        trivial,
        trivial,
        trivial,
        trivial,
        trivial,
        trivial,
        trivial,
        trivial,
        trivial,
        trivial,
        Ov rfl rfl fun _ _ T ⟨k54, _⟩ => ex_move (k54.trans s354_54),
        Ov rfl rfl fun _ _ T ⟨k39, _⟩ => ex_extract k39 rfl,
        Ov rfl rfl fun _ _ T ⟨k39, _⟩ => ex_extract k39 rfl,
        Ov rfl rfl fun _ _ T ⟨k55, _⟩ => ex_assign k55,
        Ov rfl rfl fun _ _ T ⟨k56, _⟩ => ex_assign k56,
        trivial⟩ ?_
       intro a355 w355 d355 z355 t355 e355 q355
       refine stage_end (by kernel_rfl) ?_
       repeat (with_reducible refine block_norm ?_)
       refine hK35 _ _ ?_
       refine wp_seq_k fun K356 hK356 => ?_
       have s357_10 : a355.eval (.tmp 10) = .int .i64 c344 := e355.2.2.2.2.2.2.2.2.2.2.2.2.2.2.2.2.2.2.2.1
       refine rgs mixed 117 [.eq (.int .i64 c344), .eq (.bool (decide (c344 ≠ 0)))] [[(10, none)], [(107, some 0)]] d355 z355 (by kernel_rfl) ⟨Ov rfl rfl fun _ _ T ⟨k10, _⟩ => ex_move (k10.trans s357_10), Ov rfl rfl fun _ _ T ⟨k107, _⟩ => ex_neq k107 rfl, trivial⟩ ?_
       intro a358 w358 d358 z358 t358 e358 q358
       have s359_108 : a358.eval (.tmp 108) = .bool (decide (c344 ≠ 0)) := e358.2.1
       refine wp_cond_false (s359_108.trans (by rw [kn353])) ?_
       refine wp_skip ?_
       repeat (with_reducible refine block_norm ?_)
       refine hK356 _ _ ?_
       refine seq_begin ?_
       have p361 := fr4 q343 u344.past q355 q358
       refine sp z358 rfl rfl (ex_move ((p361 6 rfl).trans s341_6)) ?_; intro a360 u360 z360
       refine sp z360 rfl rfl (ex_move ((u360.past 9 rfl).trans ((q358 9 rfl).trans e355.2.2.2.2.2.2.2.2.2.2.2.2.2.2.2.2.2.2.1))) ?_; intro a362 u362 z362
       refine snew (mk := fun bQ => .slice (some ⟨bQ, 0, none⟩) 1 1) z362 rfl rfl (exl_buildSlice (cons_parts (u362.here _ rfl) nil_parts) (bs_47_1_0Ii64 r344 _)) ?_; intro b363 w363 a363 t363 g363 hb363 u363 z363
       have f16_365 := (own_keep (own_keep (Mut.own m344 f16_346 hout1) t355) t358)
       have no364 := no_new f16_365 g363
       have t32.here_367 := (Ext.keep t358 (Ext.keep t355 (Mut.keep m344 t32.here_348 o29)))
       have n366_b26_b363 := ne_lt (lt_of t32.here_367) g363
       have H344_369 := (ArenaAt.keep (ArenaAt.keep H344 t355) t358)
       have o368 : ¬ Fp344 b363 := fun hQ => by have := ArenaAt.lt H344_369 hQ; omega
       have x371 := (Touch.trans (Touch.trans (Touch.mut x350 m344 hin) (Ext.touch t355)) (Ext.touch t358))
       have yb363_370 := Nat.le_trans (Touch.size x371) g363
       have f16_373 := (own_keep f16_365 t363)
       refine sapp (m := 1) (news := [.int .i64 r344]) z363 rfl el_47 f16_373 ((u363.past 111 rfl).trans ((u362.past 111 rfl).trans (u360.here _ rfl))) (u363.here _ rfl) rfl (news_of hb363) rfl (by omega) (by omega) ?_; intro A372 cp372 w372 a372 t372 u372 z372
       have x375 := (Touch.trans x371 (Ext.touch t363))
       have t32.here_377 := (Ext.keep t363 t32.here_367)
       have no376 := App.no t372 (lt_of t32.here_377) (fun (jQ : Nat) hQ (eQ : jQ = b26) => (fun (eQ : some b26 = _) => no27 _ eQ.symm rfl) (by rw [← eQ]; exact hQ.symm))
       have no378 := App.no t372 (lt_of hb363) (fun (jQ : Nat) hQ (eQ : jQ = b363) => (fun (eQ : some b363 = _) => no364 _ eQ.symm rfl) (by rw [← eQ]; exact hQ.symm))
       have H344_380 := (ArenaAt.keep H344_369 t363)
       have o379 := App.out t372 (fun kQ hQ => ArenaAt.lt H344_380 hQ) o347
       have no381 := App.base t372 (Touch.size x375) hbase
       refine sp z372 rfl rfl (ex_assign (u372.here _ rfl)) ?_; intro a382 u382 z382
       have d383 := (u382.defs.trans (u372.defs.trans (u363.defs.trans (u362.defs.trans (u360.defs.trans d358)))))
       refine seq_end ?_
       repeat (with_reducible refine block_norm ?_)
       refine hK21 _ _ ?_
       have p385 := fr4 u360.past u362.past u363.past u372.past
       have s384_13 := ((u382.past 13 rfl).trans ((p385 13 rfl).trans ((p361 13 rfl).trans ((q325 13 rfl).trans s259_13))))
       refine rg mixed 117 [.eq (.int .i64 ((k : Int) + 1)), .eq (.int .i64 ((k : Int) + 1))] [[(13, none)], [(115, some 0)]] d383 z382 (by kernel_rfl) ⟨Ov rfl rfl fun _ _ T ⟨k13, _⟩ => ex_add64 (k13.trans s384_13) rfl (by omega), Ov rfl rfl fun _ _ T ⟨k115, _⟩ => ex_move k115, trivial⟩ ?_
       intro a386 w386 d386 z386 t386 e386 q386
       repeat (with_reducible refine block_norm ?_)
       have hgd : Okn A344 r344 ∧ ∀ v, den A344 v r344 = sem L (k : Int) v := ⟨gd344.1, fun v => by rw [gd344.2.1 v, (hI.ok _ habc.1.1 (by omega)).2 v, (hI.ok _ habc.2.1.1 (by omega)).2 v, sem_kj (i := (k : Int)) hR (by omega) (by omega) v (by omega) (by omega)]⟩
       have s387_0 := ((q386 0 rfl).trans ((u382.past 0 rfl).trans ((p385 0 rfl).trans ((p361 0 rfl).trans s337_0))))
       have s388_6 : a382.eval (.tmp 6) = .slice A372 (k + 1) cp372 := (u382.here _ rfl)
       have s389_6 := ((q386 6 rfl).trans s388_6)
       have s390_11 := ((q386 11 rfl).trans ((u382.past 11 rfl).trans ((p385 11 rfl).trans ((p361 11 rfl).trans ((q325 11 rfl).trans s257_11)))))
       have s391_12 := ((q386 12 rfl).trans ((u382.past 12 rfl).trans ((p385 12 rfl).trans ((p361 12 rfl).trans ((q325 12 rfl).trans s258_12)))))
       have s392_13 : a386.eval (.tmp 13) = .int .i64 ((k : Int) + 1) := e386.2.1
       have x393 := (Touch.trans (Touch.via x375 t372.touch (fun jQ hQ => Or.inr (hbase jQ hQ.symm))) (Ext.touch t386))
       have H344_394 := (ArenaAt.keep (ArenaAt.same H344_380 fun kQ hQ => t372.touch.block _ (ArenaAt.lt H344_380 hQ) (fun eQ => o347 kQ eQ.symm hQ)) t386)
       have t372.own_395 := (own_keep t372.own t386)
       refine then_norm ?_
       refine ⟨_, ⟨k + 1, _, Fp344, S1 ++ [r344], A372, cp372, rfl, d386, z386, s387_0, s389_6, s390_11, s391_12, (s392_13.trans (by first | rfl | (congr 1; omega) | (simp; omega) | simp)), x393, H344_394, (by rw [← flat_push]; exact t372.own_395), by omega, hI.step R344.pre R344.wf (gw344.eq0 hz344) hgd.1 hgd.2, hpre.trans R344.pre, R344.room, i351, o379, no381⟩, ?_⟩; (show _ < _); rw [hmu7]; exact by omega
      ·have y328 := decide_eq_false c328
       have s396_34 : a325.eval (.tmp 34) = .bool (decide (((at_ L e0 (k : Int)).k) = 5)) := e325.2.1
       refine wp_cond_false (s396_34.trans (by rw [y328])) ?_
       have s397_18 := ((q325 18 rfl).trans s324_18)
       refine rg mixed 117 [.eq (.bool (decide (((at_ L e0 (k : Int)).k) = 6))), .eq (.bool (decide (((at_ L e0 (k : Int)).k) = 6)))] [[(18, none)], [(38, some 0)]] d325 z325 (by kernel_rfl) ⟨Ov rfl rfl fun _ _ T ⟨k18, _⟩ => ex_eql (k18.trans s397_18) rfl, Ov rfl rfl fun _ _ T ⟨k38, _⟩ => ex_assign k38, trivial⟩ ?_
       intro a398 w398 d398 z398 t398 e398 q398
       repeat (with_reducible refine block_norm ?_)
       refine hK180 _ _ ?_
       by_cases c399 : ((at_ L e0 (k : Int)).k) = 6
       ·have y399 := decide_eq_true c399
        have s400_34 : a398.eval (.tmp 34) = .bool (decide (((at_ L e0 (k : Int)).k) = 6)) := e398.2.1
        refine wp_cond_true (s400_34.trans (by rw [y399])) ?_
        have habc := hx.abc (by omega)
        refine stage_begin (fl := #[false, false, false, false, false, false, false, false, false, false, false, false, false, false, false, false, false, false, false, false]) mixed (by kernel_rfl) ?_
        intro w408 t408
        have s409_0 := ((q398 0 rfl).trans ((q325 0 rfl).trans s255_0))
        have p411 := fr4 q98 q182 q254 q325
        have s410_8 := ((q398 8 rfl).trans ((p411 8 rfl).trans ((q41 8 rfl).trans ((q39 8 rfl).trans s37_8))))
        have t32.here_412 := (Ext.keep t408 (Ext.keep t398 t32.here_326))
        have s413_6 := ((q398 6 rfl).trans ((q325 6 rfl).trans s256_6))
        have f16_414 := (own_keep (own_keep (own_keep f16_261 t325) t398) t408)
        refine stage 117 #[false, false, false, false, false, false, false, false, false, false, false, false, false, false, false, false, false, false, false, false] #[true, true, true, true, true, true, true, true, true, true, true, true, true, true, false, false, false, false, false, false] [.eq (.pointer (some ⟨b, 0, none⟩)), .eq (.pointer (some ⟨b26, 0, none⟩)), .eq (.int .i64 ((at_ L e0 (k : Int)).k)), .eq (.int .i64 (((at_ L e0 (k : Int)).k) - 3)), .eq (.slice Q1 k c1), .eq (.pointer (some ⟨b26, 1, none⟩)), .eq (.int .i64 ((at_ L e0 (k : Int)).a)), .eq (.pointer (some ⟨(rowB Q1), Int.toNat ((at_ L e0 (k : Int)).a) * 1, none⟩)), .eq (.int .i64 (at_ S1 (0 : Int) ((at_ L e0 (k : Int)).a))), .eq (.slice Q1 k c1), .eq (.pointer (some ⟨b26, 2, none⟩)), .eq (.int .i64 ((at_ L e0 (k : Int)).b)), .eq (.pointer (some ⟨(rowB Q1), Int.toNat ((at_ L e0 (k : Int)).b) * 1, none⟩)), .eq (.int .i64 (at_ S1 (0 : Int) ((at_ L e0 (k : Int)).b))), .any, .any, .any, .any, .any, .any] [[(0, none)], [(8, none)], [(41, some 1)], [(42, some 2)], [(6, none)], [(8, none)], [(45, some 5)], [(44, some 4), (46, some 6)], [(47, some 7)], [(6, none)], [(8, none)], [(50, some 10)], [(49, some 9), (51, some 11)], [(52, some 12)], [], [], [], [], [], []] d398 z398 (by kernel_rfl) ⟨Ov rfl rfl fun _ _ T ⟨k0, _⟩ => ex_move (k0.trans s409_0),
         Ov rfl rfl fun _ _ T ⟨k8, _⟩ => ex_fieldAddr (k8.trans s410_8) (fa_139_0 _ _ _),
         Ov rfl rfl fun _ _ T ⟨k41, _⟩ => ex_load k41 (Try.isAgg3 _) (cell_of (Ext.keep T.ext t32.here_412) rfl),
         Ov rfl rfl fun _ _ T ⟨k42, _⟩ => ex_sub64 k42 rfl (by omega),
         Ov rfl rfl fun _ _ T ⟨k6, _⟩ => ex_move (k6.trans s413_6),
         Ov rfl rfl fun _ _ T ⟨k8, _⟩ => ex_fieldAddr (k8.trans s410_8) (fa_139_1 _ _ _),
         Ov rfl rfl fun _ _ T ⟨k45, _⟩ => ex_load k45 (Try.isAgg3 _) (cell_of (Ext.keep T.ext t32.here_412) rfl),
         Ov rfl rfl fun _ _ T ⟨k44, k46, _⟩ => ex_ixa Try.underlying47 (Try.sizeOf3 _) k44 (own_eqA f16_414 (by omega)) k46 (by omega) (by omega),
         Ov rfl rfl fun _ _ T ⟨k47, _⟩ => ex_load k47 (Try.isAgg3 _) (own_at (own_keep f16_414 T.ext) (own_eqA f16_414 (by omega)) inv1_1 (at_some' (d := (0 : Int)) (hI.sl.symm) (by omega) (by omega)) 0 rfl),
         Ov rfl rfl fun _ _ T ⟨k6, _⟩ => ex_move (k6.trans s413_6),
         Ov rfl rfl fun _ _ T ⟨k8, _⟩ => ex_fieldAddr (k8.trans s410_8) (fa_139_2 _ _ _),
         Ov rfl rfl fun _ _ T ⟨k50, _⟩ => ex_load k50 (Try.isAgg3 _) (cell_of (Ext.keep T.ext t32.here_412) rfl),
         Ov rfl rfl fun _ _ T ⟨k49, k51, _⟩ => ex_ixa Try.underlying47 (Try.sizeOf3 _) k49 (own_eqA f16_414 (by omega)) k51 (by omega) (by omega),
         Ov rfl rfl fun _ _ T ⟨k52, _⟩ => ex_load k52 (Try.isAgg3 _) (own_at (own_keep f16_414 T.ext) (own_eqA f16_414 (by omega)) inv1_1 (at_some' (d := (0 : Int)) (hI.sl.symm) (by omega) (by omega)) 0 rfl),
         trivial,
         trivial,
         trivial,
         trivial,
         trivial,
         trivial,
         trivial⟩ ?_
        intro a415 w415 d415 z415 t415 e415 q415
        have f15_417 := (ArenaAt.keep (ArenaAt.keep (ArenaAt.keep (ArenaAt.keep f15_260 t325) t398) t408) t415)
        refine stage_call 117 14 #[true, true, true, true, true, true, true, true, true, true, true, true, true, true, false, false, false, false, false, false] #[true, true, true, true, true, true, true, true, true, true, true, true, true, true, true, false, false, false, false, false] z415 (by kernel_rfl) (by kernel_rfl) rfl rfl rfl (exl_call Try.func68 rfl rfl (cons_ops e415.1 (cons_ops e415.2.2.2.1 (cons_ops e415.2.2.2.2.2.2.2.2.1 (cons_ops e415.2.2.2.2.2.2.2.2.2.2.2.2.2.1 nil_ops))))) (c_Join f15_417 hI.wf hroom hm2 ((at_ L e0 (k : Int)).k - 3) _ _ (by omega) (hI.ok _ habc.1.1 (by omega)).1 (hI.ok _ habc.2.1.1 (by omega)).1) ?_
        rintro e416 w416 ⟨Fp416, A416, r416, c416, he416, H416, m416, R416, back416, more416⟩; refine ⟨_, he416, ?_⟩; intro a416 u416 z416
        have f16_418 := (own_keep f16_414 t415)
        have o419 := fun jQ hQ => Mut.out m416 (own_lt f16_418 hQ) (hout1 jQ hQ)
        have t32.here_420 := (Ext.keep t415 t32.here_412)
        have o421 := Mut.out m416 (lt_of t32.here_420) o29
        have x422 := (Touch.trans (Touch.trans (Touch.trans x327 (Ext.touch t398)) (Ext.touch t408)) (Ext.touch t415))
        have i423 := Mut.inF m416 x422 hin
        have d424 := (u416.defs.trans d415)
        have gw416 : Gw (varsL L 104) A1 A416 most c416 (3 * 2 ^ (varsL L 104).length) := (more416.gw hI.lv).mono (m_pow _)
        have hz416 : c416 = 0 := hI.full (by omega) gw416 hbig
        have kn425 : decide (c416 ≠ 0) = false := by rw [hz416]; rfl
        have gd416 := R416.ok.elim (fun hQ => hQ.2) (fun hQ => by omega)
        have s426_54 : a416.eval (.tmp 54) = .tuple #[.int .i64 r416, .int .i64 c416] := (u416.here _ rfl)
        refine stage 117 #[true, true, true, true, true, true, true, true, true, true, true, true, true, true, true, false, false, false, false, false] #[true, true, true, true, true, true, true, true, true, true, true, true, true, true, true, true, true, true, true, true] [.any, .any, .any, .any, .any, .any, .any, .any, .any, .any, .any, .any, .any, .any, .any, .eq (.tuple #[.int .i64 r416, .int .i64 c416]), .eq (.int .i64 r416), .eq (.int .i64 c416), .eq (.int .i64 r416), .eq (.int .i64 c416)] [[], [], [], [], [], [], [], [], [], [], [], [], [], [], [], [(54, none)], [(39, some 15)], [(39, some 15)], [(55, some 16)], [(56, some 17)]] d424 z416 (by kernel_rfl) ⟨trivial,
         trivial,
         trivial,
         trivial,
         trivial,
         trivial,
         trivial,
         trivial,
         trivial,
         trivial,
         trivial,
         trivial,
         trivial,
         trivial,
         trivial,
         Ov rfl rfl fun _ _ T ⟨k54, _⟩ => ex_move (k54.trans s426_54),
         Ov rfl rfl fun _ _ T ⟨k39, _⟩ => ex_extract k39 rfl,
         Ov rfl rfl fun _ _ T ⟨k39, _⟩ => ex_extract k39 rfl,
         Ov rfl rfl fun _ _ T ⟨k55, _⟩ => ex_assign k55,
         Ov rfl rfl fun _ _ T ⟨k56, _⟩ => ex_assign k56,
         trivial⟩ ?_
        intro a427 w427 d427 z427 t427 e427 q427
        refine stage_end (by kernel_rfl) ?_
        repeat (with_reducible refine block_norm ?_)
        refine hK35 _ _ ?_
        refine wp_seq_k fun K428 hK428 => ?_
        have s429_10 : a427.eval (.tmp 10) = .int .i64 c416 := e427.2.2.2.2.2.2.2.2.2.2.2.2.2.2.2.2.2.2.2.1
        refine rgs mixed 117 [.eq (.int .i64 c416), .eq (.bool (decide (c416 ≠ 0)))] [[(10, none)], [(107, some 0)]] d427 z427 (by kernel_rfl) ⟨Ov rfl rfl fun _ _ T ⟨k10, _⟩ => ex_move (k10.trans s429_10), Ov rfl rfl fun _ _ T ⟨k107, _⟩ => ex_neq k107 rfl, trivial⟩ ?_
        intro a430 w430 d430 z430 t430 e430 q430
        have s431_108 : a430.eval (.tmp 108) = .bool (decide (c416 ≠ 0)) := e430.2.1
        refine wp_cond_false (s431_108.trans (by rw [kn425])) ?_
        refine wp_skip ?_
        repeat (with_reducible refine block_norm ?_)
        refine hK428 _ _ ?_
        refine seq_begin ?_
        refine sp z430 rfl rfl (ex_move ((q430 6 rfl).trans ((q427 6 rfl).trans ((u416.past 6 rfl).trans ((q415 6 rfl).trans s413_6))))) ?_; intro a432 u432 z432
        refine sp z432 rfl rfl (ex_move ((u432.past 9 rfl).trans ((q430 9 rfl).trans e427.2.2.2.2.2.2.2.2.2.2.2.2.2.2.2.2.2.2.1))) ?_; intro a433 u433 z433
        refine snew (mk := fun bQ => .slice (some ⟨bQ, 0, none⟩) 1 1) z433 rfl rfl (exl_buildSlice (cons_parts (u433.here _ rfl) nil_parts) (bs_47_1_0Ii64 r416 _)) ?_; intro b434 w434 a434 t434 g434 hb434 u434 z434
        have f16_436 := (own_keep (own_keep (Mut.own m416 f16_418 hout1) t427) t430)
        have no435 := no_new f16_436 g434
        have t32.here_438 := (Ext.keep t430 (Ext.keep t427 (Mut.keep m416 t32.here_420 o29)))
        have n437_b26_b434 := ne_lt (lt_of t32.here_438) g434
        have H416_440 := (ArenaAt.keep (ArenaAt.keep H416 t427) t430)
        have o439 : ¬ Fp416 b434 := fun hQ => by have := ArenaAt.lt H416_440 hQ; omega
        have x442 := (Touch.trans (Touch.trans (Touch.mut x422 m416 hin) (Ext.touch t427)) (Ext.touch t430))
        have yb434_441 := Nat.le_trans (Touch.size x442) g434
        have f16_444 := (own_keep f16_436 t434)
        refine sapp (m := 1) (news := [.int .i64 r416]) z434 rfl el_47 f16_444 ((u434.past 111 rfl).trans ((u433.past 111 rfl).trans (u432.here _ rfl))) (u434.here _ rfl) rfl (news_of hb434) rfl (by omega) (by omega) ?_; intro A443 cp443 w443 a443 t443 u443 z443
        have x446 := (Touch.trans x442 (Ext.touch t434))
        have t32.here_448 := (Ext.keep t434 t32.here_438)
        have no447 := App.no t443 (lt_of t32.here_448) (fun (jQ : Nat) hQ (eQ : jQ = b26) => (fun (eQ : some b26 = _) => no27 _ eQ.symm rfl) (by rw [← eQ]; exact hQ.symm))
        have no449 := App.no t443 (lt_of hb434) (fun (jQ : Nat) hQ (eQ : jQ = b434) => (fun (eQ : some b434 = _) => no435 _ eQ.symm rfl) (by rw [← eQ]; exact hQ.symm))
        have H416_451 := (ArenaAt.keep H416_440 t434)
        have o450 := App.out t443 (fun kQ hQ => ArenaAt.lt H416_451 hQ) o419
        have no452 := App.base t443 (Touch.size x446) hbase
        refine sp z443 rfl rfl (ex_assign (u443.here _ rfl)) ?_; intro a453 u453 z453
        have d454 := (u453.defs.trans (u443.defs.trans (u434.defs.trans (u433.defs.trans (u432.defs.trans d430)))))
        refine seq_end ?_
        repeat (with_reducible refine block_norm ?_)
        refine hK21 _ _ ?_
        have p456 := fr4 q398 q415 u416.past q427
        have p457 := fr4 q430 u432.past u433.past u434.past
        have s455_13 := ((u453.past 13 rfl).trans ((u443.past 13 rfl).trans ((p457 13 rfl).trans ((p456 13 rfl).trans ((q325 13 rfl).trans s259_13)))))
        refine rg mixed 117 [.eq (.int .i64 ((k : Int) + 1)), .eq (.int .i64 ((k : Int) + 1))] [[(13, none)], [(115, some 0)]] d454 z453 (by kernel_rfl) ⟨Ov rfl rfl fun _ _ T ⟨k13, _⟩ => ex_add64 (k13.trans s455_13) rfl (by omega), Ov rfl rfl fun _ _ T ⟨k115, _⟩ => ex_move k115, trivial⟩ ?_
        intro a458 w458 d458 z458 t458 e458 q458
        repeat (with_reducible refine block_norm ?_)
        have hgd : Okn A416 r416 ∧ ∀ v, den A416 v r416 = sem L (k : Int) v := ⟨gd416.1, fun v => by rw [gd416.2.1 v, (hI.ok _ habc.1.1 (by omega)).2 v, (hI.ok _ habc.2.1.1 (by omega)).2 v, sem_kj (i := (k : Int)) hR (by omega) (by omega) v (by omega) (by omega)]⟩
        have s459_0 := ((q458 0 rfl).trans ((u453.past 0 rfl).trans ((u443.past 0 rfl).trans ((p457 0 rfl).trans ((q427 0 rfl).trans ((u416.past 0 rfl).trans ((q415 0 rfl).trans s409_0)))))))
        have s460_6 : a453.eval (.tmp 6) = .slice A443 (k + 1) cp443 := (u453.here _ rfl)
        have s461_6 := ((q458 6 rfl).trans s460_6)
        have s462_11 := ((q458 11 rfl).trans ((u453.past 11 rfl).trans ((u443.past 11 rfl).trans ((p457 11 rfl).trans ((p456 11 rfl).trans ((q325 11 rfl).trans s257_11))))))
        have s463_12 := ((q458 12 rfl).trans ((u453.past 12 rfl).trans ((u443.past 12 rfl).trans ((p457 12 rfl).trans ((p456 12 rfl).trans ((q325 12 rfl).trans s258_12))))))
        have s464_13 : a458.eval (.tmp 13) = .int .i64 ((k : Int) + 1) := e458.2.1
        have x465 := (Touch.trans (Touch.via x446 t443.touch (fun jQ hQ => Or.inr (hbase jQ hQ.symm))) (Ext.touch t458))
        have H416_466 := (ArenaAt.keep (ArenaAt.same H416_451 fun kQ hQ => t443.touch.block _ (ArenaAt.lt H416_451 hQ) (fun eQ => o419 kQ eQ.symm hQ)) t458)
        have t443.own_467 := (own_keep t443.own t458)
        refine then_norm ?_
        refine ⟨_, ⟨k + 1, _, Fp416, S1 ++ [r416], A443, cp443, rfl, d458, z458, s459_0, s461_6, s462_11, s463_12, (s464_13.trans (by first | rfl | (congr 1; omega) | (simp; omega) | simp)), x465, H416_466, (by rw [← flat_push]; exact t443.own_467), by omega, hI.step R416.pre R416.wf (gw416.eq0 hz416) hgd.1 hgd.2, hpre.trans R416.pre, R416.room, i423, o450, no452⟩, ?_⟩; (show _ < _); rw [hmu7]; exact by omega
       ·have y399 := decide_eq_false c399
        have s468_34 : a398.eval (.tmp 34) = .bool (decide (((at_ L e0 (k : Int)).k) = 6)) := e398.2.1
        refine wp_cond_false (s468_34.trans (by rw [y399])) ?_
        have s469_18 := ((q398 18 rfl).trans s397_18)
        refine rgs mixed 117 [.eq (.bool (decide (((at_ L e0 (k : Int)).k) = 7))), .eq (.bool (decide (((at_ L e0 (k : Int)).k) = 7)))] [[(18, none)], [(58, some 0)]] d398 z398 (by kernel_rfl) ⟨Ov rfl rfl fun _ _ T ⟨k18, _⟩ => ex_eql (k18.trans s469_18) rfl, Ov rfl rfl fun _ _ T ⟨k58, _⟩ => ex_assign k58, trivial⟩ ?_
        intro a470 w470 d470 z470 t470 e470 q470
        have s471_0 := ((q470 0 rfl).trans ((q398 0 rfl).trans ((q325 0 rfl).trans s255_0)))
        have s472_6 := ((q470 6 rfl).trans ((q398 6 rfl).trans ((q325 6 rfl).trans s256_6)))
        have s473_11 := ((q470 11 rfl).trans ((q398 11 rfl).trans ((q325 11 rfl).trans s257_11)))
        have s474_12 := ((q470 12 rfl).trans ((q398 12 rfl).trans ((q325 12 rfl).trans s258_12)))
        have s475_13 := ((q470 13 rfl).trans ((q398 13 rfl).trans ((q325 13 rfl).trans s259_13)))
        have f15_476 := (ArenaAt.keep (ArenaAt.keep (ArenaAt.keep f15_260 t325) t398) t470)
        have f16_477 := (own_keep (own_keep (own_keep f16_261 t325) t398) t470)
        have x478 := (Touch.trans (Touch.trans x327 (Ext.touch t398)) (Ext.touch t470))
        by_cases c479 : ((at_ L e0 (k : Int)).k) = 7
        ·have y479 := decide_eq_true c479
         have s480_57 : a470.eval (.tmp 57) = .bool (decide (((at_ L e0 (k : Int)).k) = 7)) := e470.2.1
         refine wp_cond_true (s480_57.trans (by rw [y479])) ?_
         have habc := hx.abc (by omega)
         refine seq_begin ?_
         refine sp z470 rfl rfl (ex_move s471_0) ?_; intro a481 u481 z481
         refine sp z481 rfl rfl (ex_move ((u481.past 6 rfl).trans s472_6)) ?_; intro a482 u482 z482
         have p484 := fr4 q98 q182 q254 q325
         have p485 := fr4 q398 q470 u481.past u482.past
         refine sp z482 rfl rfl (ex_fieldAddr ((p485 8 rfl).trans ((p484 8 rfl).trans ((q41 8 rfl).trans ((q39 8 rfl).trans s37_8)))) (fa_139_1 _ _ _)) ?_; intro a483 u483 z483
         have t32.here_487 := (Ext.keep t470 (Ext.keep t398 t32.here_326))
         refine sp z483 rfl rfl (ex_load (u483.here _ rfl) (Try.isAgg3 _) (cell_of t32.here_487 rfl)) ?_; intro a486 u486 z486
         refine sp z486 rfl rfl (ex_ixa Try.underlying47 (Try.sizeOf3 _) ((u486.past 61 rfl).trans ((u483.past 61 rfl).trans (u482.here _ rfl))) (own_eqA f16_477 (by omega)) (u486.here _ rfl) (by omega) (by omega)) ?_; intro a488 u488 z488
         refine sp z488 rfl rfl (ex_load (u488.here _ rfl) (Try.isAgg3 _) (own_at f16_477 (own_eqA f16_477 (by omega)) inv1_1 (at_some' (d := (0 : Int)) (hI.sl.symm) (by omega) (by omega)) 0 rfl)) ?_; intro a489 u489 z489
         have p491 := fr4 u483.past u486.past u488.past u489.past
         refine sc z489 rfl rfl (exl_call Try.func69 rfl rfl (cons_ops ((p491 60 rfl).trans ((u482.past 60 rfl).trans (u481.here _ rfl))) (cons_ops (u489.here _ rfl) nil_ops))) (c_Not f15_476 hI.wf hroom hm2 _ (hI.ok _ habc.1.1 (by omega)).1) ?_
         rintro e490 w490 ⟨Fp490, A490, r490, c490, he490, H490, m490, R490, back490, more490⟩; refine ⟨_, he490, ?_⟩; intro a490 u490 z490
         have o492 := fun jQ hQ => Mut.out m490 (own_lt f16_477 hQ) (hout1 jQ hQ)
         have o493 := Mut.out m490 (lt_of t32.here_487) o29
         have i494 := Mut.inF m490 x478 hin
         have gw490 : Gw (varsL L 104) A1 A490 most c490 (3 * 2 ^ (varsL L 104).length) := more490 _ hI.lv
         have hz490 : c490 = 0 := hI.full (by omega) gw490 hbig
         have kn495 : decide (c490 ≠ 0) = false := by rw [hz490]; rfl
         have gd490 := R490.ok.elim (fun hQ => hQ.2) (fun hQ => by omega)
         refine sp z490 rfl rfl (ex_move (u490.here _ rfl)) ?_; intro a496 u496 z496
         refine sp z496 rfl rfl (ex_extract (u496.here _ rfl) rfl) ?_; intro a497 u497 z497
         refine sp z497 rfl rfl (ex_extract ((u497.past 59 rfl).trans (u496.here _ rfl)) rfl) ?_; intro a498 u498 z498
         refine sp z498 rfl rfl (ex_assign ((u498.past 67 rfl).trans (u497.here _ rfl))) ?_; intro a499 u499 z499
         refine sp z499 rfl rfl (ex_assign ((u499.past 68 rfl).trans (u498.here _ rfl))) ?_; intro a500 u500 z500
         have d501 := (u500.defs.trans (u499.defs.trans (u498.defs.trans (u497.defs.trans (u496.defs.trans (u490.defs.trans (u489.defs.trans (u488.defs.trans (u486.defs.trans (u483.defs.trans (u482.defs.trans (u481.defs.trans d470))))))))))))
         refine seq_end ?_
         repeat (with_reducible refine block_norm ?_)
         refine hK35 _ _ ?_
         refine wp_seq_k fun K502 hK502 => ?_
         have s503_10 : a500.eval (.tmp 10) = .int .i64 c490 := (u500.here _ rfl)
         refine rgs mixed 117 [.eq (.int .i64 c490), .eq (.bool (decide (c490 ≠ 0)))] [[(10, none)], [(107, some 0)]] d501 z500 (by kernel_rfl) ⟨Ov rfl rfl fun _ _ T ⟨k10, _⟩ => ex_move (k10.trans s503_10), Ov rfl rfl fun _ _ T ⟨k107, _⟩ => ex_neq k107 rfl, trivial⟩ ?_
         intro a504 w504 d504 z504 t504 e504 q504
         have s505_108 : a504.eval (.tmp 108) = .bool (decide (c490 ≠ 0)) := e504.2.1
         refine wp_cond_false (s505_108.trans (by rw [kn495])) ?_
         refine wp_skip ?_
         repeat (with_reducible refine block_norm ?_)
         refine hK502 _ _ ?_
         refine seq_begin ?_
         have p507 := fr4 u490.past u496.past u497.past u498.past
         refine sp z504 rfl rfl (ex_move ((q504 6 rfl).trans ((u500.past 6 rfl).trans ((u499.past 6 rfl).trans ((p507 6 rfl).trans ((p491 6 rfl).trans ((u482.past 6 rfl).trans ((u481.past 6 rfl).trans s472_6)))))))) ?_; intro a506 u506 z506
         refine sp z506 rfl rfl (ex_move ((u506.past 9 rfl).trans ((q504 9 rfl).trans ((u500.past 9 rfl).trans (u499.here _ rfl))))) ?_; intro a508 u508 z508
         refine snew (mk := fun bQ => .slice (some ⟨bQ, 0, none⟩) 1 1) z508 rfl rfl (exl_buildSlice (cons_parts (u508.here _ rfl) nil_parts) (bs_47_1_0Ii64 r490 _)) ?_; intro b509 w509 a509 t509 g509 hb509 u509 z509
         have f16_511 := (own_keep (Mut.own m490 f16_477 hout1) t504)
         have no510 := no_new f16_511 g509
         have t32.here_513 := (Ext.keep t504 (Mut.keep m490 t32.here_487 o29))
         have n512_b26_b509 := ne_lt (lt_of t32.here_513) g509
         have H490_515 := (ArenaAt.keep H490 t504)
         have o514 : ¬ Fp490 b509 := fun hQ => by have := ArenaAt.lt H490_515 hQ; omega
         have x517 := (Touch.trans (Touch.mut x478 m490 hin) (Ext.touch t504))
         have yb509_516 := Nat.le_trans (Touch.size x517) g509
         have f16_519 := (own_keep f16_511 t509)
         refine sapp (m := 1) (news := [.int .i64 r490]) z509 rfl el_47 f16_519 ((u509.past 111 rfl).trans ((u508.past 111 rfl).trans (u506.here _ rfl))) (u509.here _ rfl) rfl (news_of hb509) rfl (by omega) (by omega) ?_; intro A518 cp518 w518 a518 t518 u518 z518
         have x521 := (Touch.trans x517 (Ext.touch t509))
         have t32.here_523 := (Ext.keep t509 t32.here_513)
         have no522 := App.no t518 (lt_of t32.here_523) (fun (jQ : Nat) hQ (eQ : jQ = b26) => (fun (eQ : some b26 = _) => no27 _ eQ.symm rfl) (by rw [← eQ]; exact hQ.symm))
         have no524 := App.no t518 (lt_of hb509) (fun (jQ : Nat) hQ (eQ : jQ = b509) => (fun (eQ : some b509 = _) => no510 _ eQ.symm rfl) (by rw [← eQ]; exact hQ.symm))
         have H490_526 := (ArenaAt.keep H490_515 t509)
         have o525 := App.out t518 (fun kQ hQ => ArenaAt.lt H490_526 hQ) o492
         have no527 := App.base t518 (Touch.size x521) hbase
         refine sp z518 rfl rfl (ex_assign (u518.here _ rfl)) ?_; intro a528 u528 z528
         have d529 := (u528.defs.trans (u518.defs.trans (u509.defs.trans (u508.defs.trans (u506.defs.trans d504)))))
         refine seq_end ?_
         repeat (with_reducible refine block_norm ?_)
         refine hK21 _ _ ?_
         have p531 := fr4 u499.past u500.past q504 u506.past
         have p532 := fr4 u508.past u509.past u518.past u528.past
         have p533 := fr4 p491 p507 p531 p532
         have s530_13 := ((p533 13 rfl).trans ((u482.past 13 rfl).trans ((u481.past 13 rfl).trans s475_13)))
         refine rg mixed 117 [.eq (.int .i64 ((k : Int) + 1)), .eq (.int .i64 ((k : Int) + 1))] [[(13, none)], [(115, some 0)]] d529 z528 (by kernel_rfl) ⟨Ov rfl rfl fun _ _ T ⟨k13, _⟩ => ex_add64 (k13.trans s530_13) rfl (by omega), Ov rfl rfl fun _ _ T ⟨k115, _⟩ => ex_move k115, trivial⟩ ?_
         intro a534 w534 d534 z534 t534 e534 q534
         repeat (with_reducible refine block_norm ?_)
         have hgd : Okn A490 r490 ∧ ∀ v, den A490 v r490 = sem L (k : Int) v := ⟨gd490.1, fun v => by rw [gd490.2 v, (hI.ok _ habc.1.1 (by omega)).2 v, sem_k7 (i := (k : Int)) hR (by omega) (by omega) v (by omega)]⟩
         have s535_0 := ((q534 0 rfl).trans ((p533 0 rfl).trans ((u482.past 0 rfl).trans ((u481.past 0 rfl).trans s471_0))))
         have s536_6 : a528.eval (.tmp 6) = .slice A518 (k + 1) cp518 := (u528.here _ rfl)
         have s537_6 := ((q534 6 rfl).trans s536_6)
         have s538_11 := ((q534 11 rfl).trans ((p533 11 rfl).trans ((u482.past 11 rfl).trans ((u481.past 11 rfl).trans s473_11))))
         have s539_12 := ((q534 12 rfl).trans ((p533 12 rfl).trans ((u482.past 12 rfl).trans ((u481.past 12 rfl).trans s474_12))))
         have s540_13 : a534.eval (.tmp 13) = .int .i64 ((k : Int) + 1) := e534.2.1
         have x541 := (Touch.trans (Touch.via x521 t518.touch (fun jQ hQ => Or.inr (hbase jQ hQ.symm))) (Ext.touch t534))
         have H490_542 := (ArenaAt.keep (ArenaAt.same H490_526 fun kQ hQ => t518.touch.block _ (ArenaAt.lt H490_526 hQ) (fun eQ => o492 kQ eQ.symm hQ)) t534)
         have t518.own_543 := (own_keep t518.own t534)
         refine then_norm ?_
         refine ⟨_, ⟨k + 1, _, Fp490, S1 ++ [r490], A518, cp518, rfl, d534, z534, s535_0, s537_6, s538_11, s539_12, (s540_13.trans (by first | rfl | (congr 1; omega) | (simp; omega) | simp)), x541, H490_542, (by rw [← flat_push]; exact t518.own_543), by omega, hI.step R490.pre R490.wf (gw490.eq0 hz490) hgd.1 hgd.2, hpre.trans R490.pre, R490.room, i494, o525, no527⟩, ?_⟩; (show _ < _); rw [hmu7]; exact by omega
        ·have y479 := decide_eq_false c479
         have s544_57 : a470.eval (.tmp 57) = .bool (decide (((at_ L e0 (k : Int)).k) = 7)) := e470.2.1
         refine wp_cond_false (s544_57.trans (by rw [y479])) ?_
         have s545_18 := ((q470 18 rfl).trans s469_18)
         refine rgs mixed 117 [.eq (.bool (decide (((at_ L e0 (k : Int)).k) = 8))), .eq (.bool (decide (((at_ L e0 (k : Int)).k) = 8)))] [[(18, none)], [(70, some 0)]] d470 z470 (by kernel_rfl) ⟨Ov rfl rfl fun _ _ T ⟨k18, _⟩ => ex_eql (k18.trans s545_18) rfl, Ov rfl rfl fun _ _ T ⟨k70, _⟩ => ex_assign k70, trivial⟩ ?_
         intro a546 w546 d546 z546 t546 e546 q546
         have t32.here_547 := (Ext.keep t546 (Ext.keep t470 (Ext.keep t398 t32.here_326)))
         by_cases c548 : ((at_ L e0 (k : Int)).k) = 8
         ·have y548 := decide_eq_true c548
          have s549_69 : a546.eval (.tmp 69) = .bool (decide (((at_ L e0 (k : Int)).k) = 8)) := e546.2.1
          refine wp_cond_true (s549_69.trans (by rw [y548])) ?_
          have habc := hx.abc (by omega)
          refine stage_begin (fl := #[false, false, false, false, false, false, false, false, false, false, false, false, false, false, false, false]) mixed (by kernel_rfl) ?_
          intro w556 t556
          have s557_0 := ((q546 0 rfl).trans s471_0)
          have s558_6 := ((q546 6 rfl).trans s472_6)
          have p560 := fr4 q98 q182 q254 q325
          have s559_8 := ((q546 8 rfl).trans ((q470 8 rfl).trans ((q398 8 rfl).trans ((p560 8 rfl).trans ((q41 8 rfl).trans ((q39 8 rfl).trans s37_8))))))
          have t32.here_561 := (Ext.keep t556 t32.here_547)
          have f16_562 := (own_keep (own_keep f16_477 t546) t556)
          refine stage 117 #[false, false, false, false, false, false, false, false, false, false, false, false, false, false, false, false] #[true, true, true, true, true, true, true, true, true, true, false, false, false, false, false, false] [.eq (.pointer (some ⟨b, 0, none⟩)), .eq (.slice Q1 k c1), .eq (.pointer (some ⟨b26, 1, none⟩)), .eq (.int .i64 ((at_ L e0 (k : Int)).a)), .eq (.pointer (some ⟨(rowB Q1), Int.toNat ((at_ L e0 (k : Int)).a) * 1, none⟩)), .eq (.int .i64 (at_ S1 (0 : Int) ((at_ L e0 (k : Int)).a))), .eq (.pointer (some ⟨b26, 4, none⟩)), .eq (.int .i64 ((at_ L e0 (k : Int)).v)), .eq (.pointer (some ⟨b26, 5, none⟩)), .eq (.bool ((at_ L e0 (k : Int)).on)), .any, .any, .any, .any, .any, .any] [[(0, none)], [(6, none)], [(8, none)], [(74, some 2)], [(73, some 1), (75, some 3)], [(76, some 4)], [(8, none)], [(78, some 6)], [(8, none)], [(80, some 8)], [], [], [], [], [], []] d546 z546 (by kernel_rfl) ⟨Ov rfl rfl fun _ _ T ⟨k0, _⟩ => ex_move (k0.trans s557_0),
           Ov rfl rfl fun _ _ T ⟨k6, _⟩ => ex_move (k6.trans s558_6),
           Ov rfl rfl fun _ _ T ⟨k8, _⟩ => ex_fieldAddr (k8.trans s559_8) (fa_139_1 _ _ _),
           Ov rfl rfl fun _ _ T ⟨k74, _⟩ => ex_load k74 (Try.isAgg3 _) (cell_of (Ext.keep T.ext t32.here_561) rfl),
           Ov rfl rfl fun _ _ T ⟨k73, k75, _⟩ => ex_ixa Try.underlying47 (Try.sizeOf3 _) k73 (own_eqA f16_562 (by omega)) k75 (by omega) (by omega),
           Ov rfl rfl fun _ _ T ⟨k76, _⟩ => ex_load k76 (Try.isAgg3 _) (own_at (own_keep f16_562 T.ext) (own_eqA f16_562 (by omega)) inv1_1 (at_some' (d := (0 : Int)) (hI.sl.symm) (by omega) (by omega)) 0 rfl),
           Ov rfl rfl fun _ _ T ⟨k8, _⟩ => ex_fieldAddr (k8.trans s559_8) (fa_139_4 _ _ _),
           Ov rfl rfl fun _ _ T ⟨k78, _⟩ => ex_load k78 (Try.isAgg3 _) (cell_of (Ext.keep T.ext t32.here_561) rfl),
           Ov rfl rfl fun _ _ T ⟨k8, _⟩ => ex_fieldAddr (k8.trans s559_8) (fa_139_5 _ _ _),
           Ov rfl rfl fun _ _ T ⟨k80, _⟩ => ex_load k80 (Try.isAgg4 _) (cell_of (Ext.keep T.ext t32.here_561) rfl),
           trivial,
           trivial,
           trivial,
           trivial,
           trivial,
           trivial,
           trivial⟩ ?_
          intro a563 w563 d563 z563 t563 e563 q563
          have f15_565 := (ArenaAt.keep (ArenaAt.keep (ArenaAt.keep f15_476 t546) t556) t563)
          refine stage_call 117 10 #[true, true, true, true, true, true, true, true, true, true, false, false, false, false, false, false] #[true, true, true, true, true, true, true, true, true, true, true, false, false, false, false, false] z563 (by kernel_rfl) (by kernel_rfl) rfl rfl rfl (exl_call Try.func70 rfl rfl (cons_ops e563.1 (cons_ops e563.2.2.2.2.2.1 (cons_ops e563.2.2.2.2.2.2.2.1 (cons_ops e563.2.2.2.2.2.2.2.2.2.1 nil_ops))))) (c_Restrict f15_565 hI.wf hroom hm2 (at_ L e0 (k : Int)).v (at_ L e0 (k : Int)).on _ hx.v (hI.ok _ habc.1.1 (by omega)).1) ?_
          rintro e564 w564 ⟨Fp564, A564, r564, c564, he564, H564, m564, R564, back564, more564⟩; refine ⟨_, he564, ?_⟩; intro a564 u564 z564
          have f16_566 := (own_keep f16_562 t563)
          have o567 := fun jQ hQ => Mut.out m564 (own_lt f16_566 hQ) (hout1 jQ hQ)
          have t32.here_568 := (Ext.keep t563 t32.here_561)
          have o569 := Mut.out m564 (lt_of t32.here_568) o29
          have x570 := (Touch.trans (Touch.trans (Touch.trans x478 (Ext.touch t546)) (Ext.touch t556)) (Ext.touch t563))
          have i571 := Mut.inF m564 x570 hin
          have d572 := (u564.defs.trans d563)
          have gw564 : Gw (varsL L 104) A1 A564 most c564 (3 * 2 ^ (varsL L 104).length) := more564 _ hI.lv
          have hz564 : c564 = 0 := hI.full (by omega) gw564 hbig
          have kn573 : decide (c564 ≠ 0) = false := by rw [hz564]; rfl
          have gd564 := R564.ok.elim (fun hQ => hQ.2) (fun hQ => by omega)
          have s574_82 : a564.eval (.tmp 82) = .tuple #[.int .i64 r564, .int .i64 c564] := (u564.here _ rfl)
          refine stage 117 #[true, true, true, true, true, true, true, true, true, true, true, false, false, false, false, false] #[true, true, true, true, true, true, true, true, true, true, true, true, true, true, true, true] [.any, .any, .any, .any, .any, .any, .any, .any, .any, .any, .any, .eq (.tuple #[.int .i64 r564, .int .i64 c564]), .eq (.int .i64 r564), .eq (.int .i64 c564), .eq (.int .i64 r564), .eq (.int .i64 c564)] [[], [], [], [], [], [], [], [], [], [], [], [(82, none)], [(71, some 11)], [(71, some 11)], [(83, some 12)], [(84, some 13)]] d572 z564 (by kernel_rfl) ⟨trivial,
           trivial,
           trivial,
           trivial,
           trivial,
           trivial,
           trivial,
           trivial,
           trivial,
           trivial,
           trivial,
           Ov rfl rfl fun _ _ T ⟨k82, _⟩ => ex_move (k82.trans s574_82),
           Ov rfl rfl fun _ _ T ⟨k71, _⟩ => ex_extract k71 rfl,
           Ov rfl rfl fun _ _ T ⟨k71, _⟩ => ex_extract k71 rfl,
           Ov rfl rfl fun _ _ T ⟨k83, _⟩ => ex_assign k83,
           Ov rfl rfl fun _ _ T ⟨k84, _⟩ => ex_assign k84,
           trivial⟩ ?_
          intro a575 w575 d575 z575 t575 e575 q575
          refine stage_end (by kernel_rfl) ?_
          repeat (with_reducible refine block_norm ?_)
          refine hK35 _ _ ?_
          refine wp_seq_k fun K576 hK576 => ?_
          have s577_10 : a575.eval (.tmp 10) = .int .i64 c564 := e575.2.2.2.2.2.2.2.2.2.2.2.2.2.2.2.1
          refine rgs mixed 117 [.eq (.int .i64 c564), .eq (.bool (decide (c564 ≠ 0)))] [[(10, none)], [(107, some 0)]] d575 z575 (by kernel_rfl) ⟨Ov rfl rfl fun _ _ T ⟨k10, _⟩ => ex_move (k10.trans s577_10), Ov rfl rfl fun _ _ T ⟨k107, _⟩ => ex_neq k107 rfl, trivial⟩ ?_
          intro a578 w578 d578 z578 t578 e578 q578
          have s579_108 : a578.eval (.tmp 108) = .bool (decide (c564 ≠ 0)) := e578.2.1
          refine wp_cond_false (s579_108.trans (by rw [kn573])) ?_
          refine wp_skip ?_
          repeat (with_reducible refine block_norm ?_)
          refine hK576 _ _ ?_
          refine seq_begin ?_
          refine sp z578 rfl rfl (ex_move ((q578 6 rfl).trans ((q575 6 rfl).trans ((u564.past 6 rfl).trans ((q563 6 rfl).trans s558_6))))) ?_; intro a580 u580 z580
          refine sp z580 rfl rfl (ex_move ((u580.past 9 rfl).trans ((q578 9 rfl).trans e575.2.2.2.2.2.2.2.2.2.2.2.2.2.2.1))) ?_; intro a581 u581 z581
          refine snew (mk := fun bQ => .slice (some ⟨bQ, 0, none⟩) 1 1) z581 rfl rfl (exl_buildSlice (cons_parts (u581.here _ rfl) nil_parts) (bs_47_1_0Ii64 r564 _)) ?_; intro b582 w582 a582 t582 g582 hb582 u582 z582
          have f16_584 := (own_keep (own_keep (Mut.own m564 f16_566 hout1) t575) t578)
          have no583 := no_new f16_584 g582
          have t32.here_586 := (Ext.keep t578 (Ext.keep t575 (Mut.keep m564 t32.here_568 o29)))
          have n585_b26_b582 := ne_lt (lt_of t32.here_586) g582
          have H564_588 := (ArenaAt.keep (ArenaAt.keep H564 t575) t578)
          have o587 : ¬ Fp564 b582 := fun hQ => by have := ArenaAt.lt H564_588 hQ; omega
          have x590 := (Touch.trans (Touch.trans (Touch.mut x570 m564 hin) (Ext.touch t575)) (Ext.touch t578))
          have yb582_589 := Nat.le_trans (Touch.size x590) g582
          have f16_592 := (own_keep f16_584 t582)
          refine sapp (m := 1) (news := [.int .i64 r564]) z582 rfl el_47 f16_592 ((u582.past 111 rfl).trans ((u581.past 111 rfl).trans (u580.here _ rfl))) (u582.here _ rfl) rfl (news_of hb582) rfl (by omega) (by omega) ?_; intro A591 cp591 w591 a591 t591 u591 z591
          have x594 := (Touch.trans x590 (Ext.touch t582))
          have t32.here_596 := (Ext.keep t582 t32.here_586)
          have no595 := App.no t591 (lt_of t32.here_596) (fun (jQ : Nat) hQ (eQ : jQ = b26) => (fun (eQ : some b26 = _) => no27 _ eQ.symm rfl) (by rw [← eQ]; exact hQ.symm))
          have no597 := App.no t591 (lt_of hb582) (fun (jQ : Nat) hQ (eQ : jQ = b582) => (fun (eQ : some b582 = _) => no583 _ eQ.symm rfl) (by rw [← eQ]; exact hQ.symm))
          have H564_599 := (ArenaAt.keep H564_588 t582)
          have o598 := App.out t591 (fun kQ hQ => ArenaAt.lt H564_599 hQ) o567
          have no600 := App.base t591 (Touch.size x594) hbase
          refine sp z591 rfl rfl (ex_assign (u591.here _ rfl)) ?_; intro a601 u601 z601
          have d602 := (u601.defs.trans (u591.defs.trans (u582.defs.trans (u581.defs.trans (u580.defs.trans d578)))))
          refine seq_end ?_
          repeat (with_reducible refine block_norm ?_)
          refine hK21 _ _ ?_
          have p604 := fr4 u564.past q575 q578 u580.past
          have p605 := fr4 u581.past u582.past u591.past u601.past
          have s603_13 := ((p605 13 rfl).trans ((p604 13 rfl).trans ((q563 13 rfl).trans ((q546 13 rfl).trans s475_13))))
          refine rg mixed 117 [.eq (.int .i64 ((k : Int) + 1)), .eq (.int .i64 ((k : Int) + 1))] [[(13, none)], [(115, some 0)]] d602 z601 (by kernel_rfl) ⟨Ov rfl rfl fun _ _ T ⟨k13, _⟩ => ex_add64 (k13.trans s603_13) rfl (by omega), Ov rfl rfl fun _ _ T ⟨k115, _⟩ => ex_move k115, trivial⟩ ?_
          intro a606 w606 d606 z606 t606 e606 q606
          repeat (with_reducible refine block_norm ?_)
          have hgd : Okn A564 r564 ∧ ∀ v, den A564 v r564 = sem L (k : Int) v := ⟨gd564.1, fun v => by rw [gd564.2.1 v, (hI.ok _ habc.1.1 (by omega)).2, sem_k8 (i := (k : Int)) hR (by omega) (by omega) v (by omega)]⟩
          have s607_0 := ((q606 0 rfl).trans ((p605 0 rfl).trans ((p604 0 rfl).trans ((q563 0 rfl).trans s557_0))))
          have s608_6 : a601.eval (.tmp 6) = .slice A591 (k + 1) cp591 := (u601.here _ rfl)
          have s609_6 := ((q606 6 rfl).trans s608_6)
          have s610_11 := ((q606 11 rfl).trans ((p605 11 rfl).trans ((p604 11 rfl).trans ((q563 11 rfl).trans ((q546 11 rfl).trans s473_11)))))
          have s611_12 := ((q606 12 rfl).trans ((p605 12 rfl).trans ((p604 12 rfl).trans ((q563 12 rfl).trans ((q546 12 rfl).trans s474_12)))))
          have s612_13 : a606.eval (.tmp 13) = .int .i64 ((k : Int) + 1) := e606.2.1
          have x613 := (Touch.trans (Touch.via x594 t591.touch (fun jQ hQ => Or.inr (hbase jQ hQ.symm))) (Ext.touch t606))
          have H564_614 := (ArenaAt.keep (ArenaAt.same H564_599 fun kQ hQ => t591.touch.block _ (ArenaAt.lt H564_599 hQ) (fun eQ => o567 kQ eQ.symm hQ)) t606)
          have t591.own_615 := (own_keep t591.own t606)
          refine then_norm ?_
          refine ⟨_, ⟨k + 1, _, Fp564, S1 ++ [r564], A591, cp591, rfl, d606, z606, s607_0, s609_6, s610_11, s611_12, (s612_13.trans (by first | rfl | (congr 1; omega) | (simp; omega) | simp)), x613, H564_614, (by rw [← flat_push]; exact t591.own_615), by omega, hI.step R564.pre R564.wf (gw564.eq0 hz564) hgd.1 hgd.2, hpre.trans R564.pre, R564.room, i571, o598, no600⟩, ?_⟩; (show _ < _); rw [hmu7]; exact by omega
         ·have y548 := decide_eq_false c548
          have s616_69 : a546.eval (.tmp 69) = .bool (decide (((at_ L e0 (k : Int)).k) = 8)) := e546.2.1
          refine wp_cond_false (s616_69.trans (by rw [y548])) ?_
          have s617_18 := ((q546 18 rfl).trans s545_18)
          refine rgs mixed 117 [.eq (.bool (decide (((at_ L e0 (k : Int)).k) = 9))), .eq (.bool (decide (((at_ L e0 (k : Int)).k) = 9)))] [[(18, none)], [(86, some 0)]] d546 z546 (by kernel_rfl) ⟨Ov rfl rfl fun _ _ T ⟨k18, _⟩ => ex_eql (k18.trans s617_18) rfl, Ov rfl rfl fun _ _ T ⟨k86, _⟩ => ex_assign k86, trivial⟩ ?_
          intro a618 w618 d618 z618 t618 e618 q618
          have x619 := (Touch.trans (Touch.trans x478 (Ext.touch t546)) (Ext.touch t618))
          by_cases c620 : ((at_ L e0 (k : Int)).k) = 9
          ·have y620 := decide_eq_true c620
           have s621_85 : a618.eval (.tmp 85) = .bool (decide (((at_ L e0 (k : Int)).k) = 9)) := e618.2.1
           refine wp_cond_true (s621_85.trans (by rw [y620])) ?_
           have habc := hx.abc (by omega)
           refine stage_begin (fl := #[false, false, false, false, false, false, false, false, false, false, false, false, false, false, false, false, false, false, false, false, false, false]) mixed (by kernel_rfl) ?_
           intro w630 t630
           have s631_0 := ((q618 0 rfl).trans ((q546 0 rfl).trans s471_0))
           have s632_6 := ((q618 6 rfl).trans ((q546 6 rfl).trans s472_6))
           have p634 := fr4 q98 q182 q254 q325
           have p635 := fr4 q398 q470 q546 q618
           have s633_8 := ((p635 8 rfl).trans ((p634 8 rfl).trans ((q41 8 rfl).trans ((q39 8 rfl).trans s37_8))))
           have t32.here_636 := (Ext.keep t630 (Ext.keep t618 t32.here_547))
           have f16_637 := (own_keep (own_keep (own_keep f16_477 t546) t618) t630)
           refine stage 117 #[false, false, false, false, false, false, false, false, false, false, false, false, false, false, false, false, false, false, false, false, false, false] #[true, true, true, true, true, true, true, true, true, true, true, true, true, true, true, true, false, false, false, false, false, false] [.eq (.pointer (some ⟨b, 0, none⟩)), .eq (.slice Q1 k c1), .eq (.pointer (some ⟨b26, 1, none⟩)), .eq (.int .i64 ((at_ L e0 (k : Int)).a)), .eq (.pointer (some ⟨(rowB Q1), Int.toNat ((at_ L e0 (k : Int)).a) * 1, none⟩)), .eq (.int .i64 (at_ S1 (0 : Int) ((at_ L e0 (k : Int)).a))), .eq (.slice Q1 k c1), .eq (.pointer (some ⟨b26, 2, none⟩)), .eq (.int .i64 ((at_ L e0 (k : Int)).b)), .eq (.pointer (some ⟨(rowB Q1), Int.toNat ((at_ L e0 (k : Int)).b) * 1, none⟩)), .eq (.int .i64 (at_ S1 (0 : Int) ((at_ L e0 (k : Int)).b))), .eq (.slice Q1 k c1), .eq (.pointer (some ⟨b26, 3, none⟩)), .eq (.int .i64 ((at_ L e0 (k : Int)).c)), .eq (.pointer (some ⟨(rowB Q1), Int.toNat ((at_ L e0 (k : Int)).c) * 1, none⟩)), .eq (.int .i64 (at_ S1 (0 : Int) ((at_ L e0 (k : Int)).c))), .any, .any, .any, .any, .any, .any] [[(0, none)], [(6, none)], [(8, none)], [(90, some 2)], [(89, some 1), (91, some 3)], [(92, some 4)], [(6, none)], [(8, none)], [(95, some 7)], [(94, some 6), (96, some 8)], [(97, some 9)], [(6, none)], [(8, none)], [(100, some 12)], [(99, some 11), (101, some 13)], [(102, some 14)], [], [], [], [], [], []] d618 z618 (by kernel_rfl) ⟨Ov rfl rfl fun _ _ T ⟨k0, _⟩ => ex_move (k0.trans s631_0),
            Ov rfl rfl fun _ _ T ⟨k6, _⟩ => ex_move (k6.trans s632_6),
            Ov rfl rfl fun _ _ T ⟨k8, _⟩ => ex_fieldAddr (k8.trans s633_8) (fa_139_1 _ _ _),
            Ov rfl rfl fun _ _ T ⟨k90, _⟩ => ex_load k90 (Try.isAgg3 _) (cell_of (Ext.keep T.ext t32.here_636) rfl),
            Ov rfl rfl fun _ _ T ⟨k89, k91, _⟩ => ex_ixa Try.underlying47 (Try.sizeOf3 _) k89 (own_eqA f16_637 (by omega)) k91 (by omega) (by omega),
            Ov rfl rfl fun _ _ T ⟨k92, _⟩ => ex_load k92 (Try.isAgg3 _) (own_at (own_keep f16_637 T.ext) (own_eqA f16_637 (by omega)) inv1_1 (at_some' (d := (0 : Int)) (hI.sl.symm) (by omega) (by omega)) 0 rfl),
            Ov rfl rfl fun _ _ T ⟨k6, _⟩ => ex_move (k6.trans s632_6),
            Ov rfl rfl fun _ _ T ⟨k8, _⟩ => ex_fieldAddr (k8.trans s633_8) (fa_139_2 _ _ _),
            Ov rfl rfl fun _ _ T ⟨k95, _⟩ => ex_load k95 (Try.isAgg3 _) (cell_of (Ext.keep T.ext t32.here_636) rfl),
            Ov rfl rfl fun _ _ T ⟨k94, k96, _⟩ => ex_ixa Try.underlying47 (Try.sizeOf3 _) k94 (own_eqA f16_637 (by omega)) k96 (by omega) (by omega),
            Ov rfl rfl fun _ _ T ⟨k97, _⟩ => ex_load k97 (Try.isAgg3 _) (own_at (own_keep f16_637 T.ext) (own_eqA f16_637 (by omega)) inv1_1 (at_some' (d := (0 : Int)) (hI.sl.symm) (by omega) (by omega)) 0 rfl),
            Ov rfl rfl fun _ _ T ⟨k6, _⟩ => ex_move (k6.trans s632_6),
            Ov rfl rfl fun _ _ T ⟨k8, _⟩ => ex_fieldAddr (k8.trans s633_8) (fa_139_3 _ _ _),
            Ov rfl rfl fun _ _ T ⟨k100, _⟩ => ex_load k100 (Try.isAgg3 _) (cell_of (Ext.keep T.ext t32.here_636) rfl),
            Ov rfl rfl fun _ _ T ⟨k99, k101, _⟩ => ex_ixa Try.underlying47 (Try.sizeOf3 _) k99 (own_eqA f16_637 (by omega)) k101 (by omega) (by omega),
            Ov rfl rfl fun _ _ T ⟨k102, _⟩ => ex_load k102 (Try.isAgg3 _) (own_at (own_keep f16_637 T.ext) (own_eqA f16_637 (by omega)) inv1_1 (at_some' (d := (0 : Int)) (hI.sl.symm) (by omega) (by omega)) 0 rfl),
            trivial,
            trivial,
            trivial,
            trivial,
            trivial,
            trivial,
            trivial⟩ ?_
           intro a638 w638 d638 z638 t638 e638 q638
           have f15_640 := (ArenaAt.keep (ArenaAt.keep (ArenaAt.keep (ArenaAt.keep f15_476 t546) t618) t630) t638)
           refine stage_call 117 16 #[true, true, true, true, true, true, true, true, true, true, true, true, true, true, true, true, false, false, false, false, false, false] #[true, true, true, true, true, true, true, true, true, true, true, true, true, true, true, true, true, false, false, false, false, false] z638 (by kernel_rfl) (by kernel_rfl) rfl rfl rfl (exl_call Try.func71 rfl rfl (cons_ops e638.1 (cons_ops e638.2.2.2.2.2.1 (cons_ops e638.2.2.2.2.2.2.2.2.2.2.1 (cons_ops e638.2.2.2.2.2.2.2.2.2.2.2.2.2.2.2.1 nil_ops))))) (c_Ite f15_640 hI.wf hroom hm2 _ _ _ (hI.ok _ habc.1.1 (by omega)).1 (hI.ok _ habc.2.1.1 (by omega)).1 (hI.ok _ habc.2.2.1 (by omega)).1) ?_
           rintro e639 w639 ⟨Fp639, A639, r639, c639, he639, H639, m639, R639, back639, more639⟩; refine ⟨_, he639, ?_⟩; intro a639 u639 z639
           have f16_641 := (own_keep f16_637 t638)
           have o642 := fun jQ hQ => Mut.out m639 (own_lt f16_641 hQ) (hout1 jQ hQ)
           have t32.here_643 := (Ext.keep t638 t32.here_636)
           have o644 := Mut.out m639 (lt_of t32.here_643) o29
           have x645 := (Touch.trans (Touch.trans x619 (Ext.touch t630)) (Ext.touch t638))
           have i646 := Mut.inF m639 x645 hin
           have d647 := (u639.defs.trans d638)
           have gw639 : Gw (varsL L 104) A1 A639 most c639 (3 * 2 ^ (varsL L 104).length) := more639 _ hI.lv
           have hz639 : c639 = 0 := hI.full (by omega) gw639 hbig
           have kn648 : decide (c639 ≠ 0) = false := by rw [hz639]; rfl
           have gd639 := R639.ok.elim (fun hQ => hQ.2) (fun hQ => by omega)
           have s649_104 : a639.eval (.tmp 104) = .tuple #[.int .i64 r639, .int .i64 c639] := (u639.here _ rfl)
           refine stage 117 #[true, true, true, true, true, true, true, true, true, true, true, true, true, true, true, true, true, false, false, false, false, false] #[true, true, true, true, true, true, true, true, true, true, true, true, true, true, true, true, true, true, true, true, true, true] [.any, .any, .any, .any, .any, .any, .any, .any, .any, .any, .any, .any, .any, .any, .any, .any, .any, .eq (.tuple #[.int .i64 r639, .int .i64 c639]), .eq (.int .i64 r639), .eq (.int .i64 c639), .eq (.int .i64 r639), .eq (.int .i64 c639)] [[], [], [], [], [], [], [], [], [], [], [], [], [], [], [], [], [], [(104, none)], [(87, some 17)], [(87, some 17)], [(105, some 18)], [(106, some 19)]] d647 z639 (by kernel_rfl) ⟨trivial,
            trivial,
            trivial,
            trivial,
            trivial,
            trivial,
            trivial,
            trivial,
            trivial,
            trivial,
            trivial,
            trivial,
            trivial,
            trivial,
            trivial,
            trivial,
            trivial,
            Ov rfl rfl fun _ _ T ⟨k104, _⟩ => ex_move (k104.trans s649_104),
            Ov rfl rfl fun _ _ T ⟨k87, _⟩ => ex_extract k87 rfl,
            Ov rfl rfl fun _ _ T ⟨k87, _⟩ => ex_extract k87 rfl,
            Ov rfl rfl fun _ _ T ⟨k105, _⟩ => ex_assign k105,
            Ov rfl rfl fun _ _ T ⟨k106, _⟩ => ex_assign k106,
            trivial⟩ ?_
           intro a650 w650 d650 z650 t650 e650 q650
           refine stage_end (by kernel_rfl) ?_
           repeat (with_reducible refine block_norm ?_)
           refine hK35 _ _ ?_
           refine wp_seq_k fun K651 hK651 => ?_
           have s652_10 : a650.eval (.tmp 10) = .int .i64 c639 := e650.2.2.2.2.2.2.2.2.2.2.2.2.2.2.2.2.2.2.2.2.2.1
           refine rgs mixed 117 [.eq (.int .i64 c639), .eq (.bool (decide (c639 ≠ 0)))] [[(10, none)], [(107, some 0)]] d650 z650 (by kernel_rfl) ⟨Ov rfl rfl fun _ _ T ⟨k10, _⟩ => ex_move (k10.trans s652_10), Ov rfl rfl fun _ _ T ⟨k107, _⟩ => ex_neq k107 rfl, trivial⟩ ?_
           intro a653 w653 d653 z653 t653 e653 q653
           have s654_108 : a653.eval (.tmp 108) = .bool (decide (c639 ≠ 0)) := e653.2.1
           refine wp_cond_false (s654_108.trans (by rw [kn648])) ?_
           refine wp_skip ?_
           repeat (with_reducible refine block_norm ?_)
           refine hK651 _ _ ?_
           refine seq_begin ?_
           have p656 := fr4 q638 u639.past q650 q653
           refine sp z653 rfl rfl (ex_move ((p656 6 rfl).trans s632_6)) ?_; intro a655 u655 z655
           refine sp z655 rfl rfl (ex_move ((u655.past 9 rfl).trans ((q653 9 rfl).trans e650.2.2.2.2.2.2.2.2.2.2.2.2.2.2.2.2.2.2.2.2.1))) ?_; intro a657 u657 z657
           refine snew (mk := fun bQ => .slice (some ⟨bQ, 0, none⟩) 1 1) z657 rfl rfl (exl_buildSlice (cons_parts (u657.here _ rfl) nil_parts) (bs_47_1_0Ii64 r639 _)) ?_; intro b658 w658 a658 t658 g658 hb658 u658 z658
           have f16_660 := (own_keep (own_keep (Mut.own m639 f16_641 hout1) t650) t653)
           have no659 := no_new f16_660 g658
           have t32.here_662 := (Ext.keep t653 (Ext.keep t650 (Mut.keep m639 t32.here_643 o29)))
           have n661_b26_b658 := ne_lt (lt_of t32.here_662) g658
           have H639_664 := (ArenaAt.keep (ArenaAt.keep H639 t650) t653)
           have o663 : ¬ Fp639 b658 := fun hQ => by have := ArenaAt.lt H639_664 hQ; omega
           have x666 := (Touch.trans (Touch.trans (Touch.mut x645 m639 hin) (Ext.touch t650)) (Ext.touch t653))
           have yb658_665 := Nat.le_trans (Touch.size x666) g658
           have f16_668 := (own_keep f16_660 t658)
           refine sapp (m := 1) (news := [.int .i64 r639]) z658 rfl el_47 f16_668 ((u658.past 111 rfl).trans ((u657.past 111 rfl).trans (u655.here _ rfl))) (u658.here _ rfl) rfl (news_of hb658) rfl (by omega) (by omega) ?_; intro A667 cp667 w667 a667 t667 u667 z667
           have x670 := (Touch.trans x666 (Ext.touch t658))
           have t32.here_672 := (Ext.keep t658 t32.here_662)
           have no671 := App.no t667 (lt_of t32.here_672) (fun (jQ : Nat) hQ (eQ : jQ = b26) => (fun (eQ : some b26 = _) => no27 _ eQ.symm rfl) (by rw [← eQ]; exact hQ.symm))
           have no673 := App.no t667 (lt_of hb658) (fun (jQ : Nat) hQ (eQ : jQ = b658) => (fun (eQ : some b658 = _) => no659 _ eQ.symm rfl) (by rw [← eQ]; exact hQ.symm))
           have H639_675 := (ArenaAt.keep H639_664 t658)
           have o674 := App.out t667 (fun kQ hQ => ArenaAt.lt H639_675 hQ) o642
           have no676 := App.base t667 (Touch.size x670) hbase
           refine sp z667 rfl rfl (ex_assign (u667.here _ rfl)) ?_; intro a677 u677 z677
           have d678 := (u677.defs.trans (u667.defs.trans (u658.defs.trans (u657.defs.trans (u655.defs.trans d653)))))
           refine seq_end ?_
           repeat (with_reducible refine block_norm ?_)
           refine hK21 _ _ ?_
           have p680 := fr4 u655.past u657.past u658.past u667.past
           have s679_13 := ((u677.past 13 rfl).trans ((p680 13 rfl).trans ((p656 13 rfl).trans ((q618 13 rfl).trans ((q546 13 rfl).trans s475_13)))))
           refine rg mixed 117 [.eq (.int .i64 ((k : Int) + 1)), .eq (.int .i64 ((k : Int) + 1))] [[(13, none)], [(115, some 0)]] d678 z677 (by kernel_rfl) ⟨Ov rfl rfl fun _ _ T ⟨k13, _⟩ => ex_add64 (k13.trans s679_13) rfl (by omega), Ov rfl rfl fun _ _ T ⟨k115, _⟩ => ex_move k115, trivial⟩ ?_
           intro a681 w681 d681 z681 t681 e681 q681
           repeat (with_reducible refine block_norm ?_)
           have hgd : Okn A639 r639 ∧ ∀ v, den A639 v r639 = sem L (k : Int) v := ⟨gd639.1, fun v => by rw [gd639.2 v, (hI.ok _ habc.1.1 (by omega)).2 v, (hI.ok _ habc.2.1.1 (by omega)).2 v, (hI.ok _ habc.2.2.1 (by omega)).2 v, sem_k9 (i := (k : Int)) hR (by omega) (by omega) v (by omega)]⟩
           have s682_0 := ((q681 0 rfl).trans ((u677.past 0 rfl).trans ((p680 0 rfl).trans ((p656 0 rfl).trans s631_0))))
           have s683_6 : a677.eval (.tmp 6) = .slice A667 (k + 1) cp667 := (u677.here _ rfl)
           have s684_6 := ((q681 6 rfl).trans s683_6)
           have s685_11 := ((q681 11 rfl).trans ((u677.past 11 rfl).trans ((p680 11 rfl).trans ((p656 11 rfl).trans ((q618 11 rfl).trans ((q546 11 rfl).trans s473_11))))))
           have s686_12 := ((q681 12 rfl).trans ((u677.past 12 rfl).trans ((p680 12 rfl).trans ((p656 12 rfl).trans ((q618 12 rfl).trans ((q546 12 rfl).trans s474_12))))))
           have s687_13 : a681.eval (.tmp 13) = .int .i64 ((k : Int) + 1) := e681.2.1
           have x688 := (Touch.trans (Touch.via x670 t667.touch (fun jQ hQ => Or.inr (hbase jQ hQ.symm))) (Ext.touch t681))
           have H639_689 := (ArenaAt.keep (ArenaAt.same H639_675 fun kQ hQ => t667.touch.block _ (ArenaAt.lt H639_675 hQ) (fun eQ => o642 kQ eQ.symm hQ)) t681)
           have t667.own_690 := (own_keep t667.own t681)
           refine then_norm ?_
           refine ⟨_, ⟨k + 1, _, Fp639, S1 ++ [r639], A667, cp667, rfl, d681, z681, s682_0, s684_6, s685_11, s686_12, (s687_13.trans (by first | rfl | (congr 1; omega) | (simp; omega) | simp)), x688, H639_689, (by rw [← flat_push]; exact t667.own_690), by omega, hI.step R639.pre R639.wf (gw639.eq0 hz639) hgd.1 hgd.2, hpre.trans R639.pre, R639.room, i646, o674, no676⟩, ?_⟩; (show _ < _); rw [hmu7]; exact by omega
          ·have y620 := decide_eq_false c620
           have s691_85 : a618.eval (.tmp 85) = .bool (decide (((at_ L e0 (k : Int)).k) = 9)) := e618.2.1
           refine wp_cond_false (s691_85.trans (by rw [y620])) ?_
           refine wp_skip ?_
           repeat (with_reducible refine block_norm ?_)
           refine hK35 _ _ ?_
           refine wp_seq_k fun K692 hK692 => ?_
           have s693_10 : a34.eval (.tmp 10) = .int .i64 0 := e34.2.1
           have p695 := fr4 q98 q182 q254 q325
           have p696 := fr4 q398 q470 q546 q618
           have s694_10 := ((p696 10 rfl).trans ((p695 10 rfl).trans ((q41 10 rfl).trans ((q39 10 rfl).trans s693_10))))
           refine rgs mixed 117 [.eq (.int .i64 0), .eq (.bool false)] [[(10, none)], [(107, some 0)]] d618 z618 (by kernel_rfl) ⟨Ov rfl rfl fun _ _ T ⟨k10, _⟩ => ex_move (k10.trans s694_10), Ov rfl rfl fun _ _ T ⟨k107, _⟩ => ex_neq (m := 0) (n := 0) k107 rfl, trivial⟩ ?_
           intro a697 w697 d697 z697 t697 e697 q697
           have s698_108 : a697.eval (.tmp 108) = .bool false := e697.2.1
           refine wp_cond_false s698_108 ?_
           refine wp_skip ?_
           repeat (with_reducible refine block_norm ?_)
           refine hK692 _ _ ?_
           refine seq_begin ?_
           refine sp z697 rfl rfl (ex_move ((q697 6 rfl).trans ((q618 6 rfl).trans ((q546 6 rfl).trans s472_6)))) ?_; intro a699 u699 z699
           refine sp z699 rfl rfl (ex_move ((u699.past 9 rfl).trans ((q697 9 rfl).trans ((p696 9 rfl).trans ((p695 9 rfl).trans ((q41 9 rfl).trans ((q39 9 rfl).trans e34.1))))))) ?_; intro a700 u700 z700
           refine snew (mk := fun bQ => .slice (some ⟨bQ, 0, none⟩) 1 1) z700 rfl rfl (exl_buildSlice (cons_parts (u700.here _ rfl) nil_parts) (bs_47_1_0Ii64 0 _)) ?_; intro b701 w701 a701 t701 g701 hb701 u701 z701
           have f16_703 := (own_keep (own_keep (own_keep f16_477 t546) t618) t697)
           have no702 := no_new f16_703 g701
           have t32.here_705 := (Ext.keep t697 (Ext.keep t618 t32.here_547))
           have n704_b26_b701 := ne_lt (lt_of t32.here_705) g701
           have f15_707 := (ArenaAt.keep (ArenaAt.keep (ArenaAt.keep f15_476 t546) t618) t697)
           have o706 : ¬ Fp1 b701 := fun hQ => by have := ArenaAt.lt f15_707 hQ; omega
           have x709 := (Touch.trans x619 (Ext.touch t697))
           have yb701_708 := Nat.le_trans (Touch.size x709) g701
           have f16_711 := (own_keep f16_703 t701)
           refine sapp (m := 1) (news := [.int .i64 0]) z701 rfl el_47 f16_711 ((u701.past 111 rfl).trans ((u700.past 111 rfl).trans (u699.here _ rfl))) (u701.here _ rfl) rfl (news_of hb701) rfl (by omega) (by omega) ?_; intro A710 cp710 w710 a710 t710 u710 z710
           have x713 := (Touch.trans x709 (Ext.touch t701))
           have t32.here_715 := (Ext.keep t701 t32.here_705)
           have no714 := App.no t710 (lt_of t32.here_715) (fun (jQ : Nat) hQ (eQ : jQ = b26) => (fun (eQ : some b26 = _) => no27 _ eQ.symm rfl) (by rw [← eQ]; exact hQ.symm))
           have no716 := App.no t710 (lt_of hb701) (fun (jQ : Nat) hQ (eQ : jQ = b701) => (fun (eQ : some b701 = _) => no702 _ eQ.symm rfl) (by rw [← eQ]; exact hQ.symm))
           have f15_718 := (ArenaAt.keep f15_707 t701)
           have o717 := App.out t710 (fun kQ hQ => ArenaAt.lt f15_718 hQ) hout1
           have no719 := App.base t710 (Touch.size x713) hbase
           refine sp z710 rfl rfl (ex_assign (u710.here _ rfl)) ?_; intro a720 u720 z720
           have d721 := (u720.defs.trans (u710.defs.trans (u701.defs.trans (u700.defs.trans (u699.defs.trans d697)))))
           refine seq_end ?_
           repeat (with_reducible refine block_norm ?_)
           refine hK21 _ _ ?_
           have p723 := fr4 q697 u699.past u700.past u701.past
           have s722_13 := ((u720.past 13 rfl).trans ((u710.past 13 rfl).trans ((p723 13 rfl).trans ((q618 13 rfl).trans ((q546 13 rfl).trans s475_13)))))
           refine rg mixed 117 [.eq (.int .i64 ((k : Int) + 1)), .eq (.int .i64 ((k : Int) + 1))] [[(13, none)], [(115, some 0)]] d721 z720 (by kernel_rfl) ⟨Ov rfl rfl fun _ _ T ⟨k13, _⟩ => ex_add64 (k13.trans s722_13) rfl (by omega), Ov rfl rfl fun _ _ T ⟨k115, _⟩ => ex_move k115, trivial⟩ ?_
           intro a724 w724 d724 z724 t724 e724 q724
           repeat (with_reducible refine block_norm ?_)
           have hgd : Okn A1 0 ∧ ∀ v, den A1 v 0 = sem L (k : Int) v := ⟨⟨by omega, by omega⟩, fun v => by rw [sem_k0 (i := (k : Int)) hR (by omega) (by omega) v (by omega)]; rfl⟩
           have s725_0 := ((q724 0 rfl).trans ((u720.past 0 rfl).trans ((u710.past 0 rfl).trans ((p723 0 rfl).trans ((q618 0 rfl).trans ((q546 0 rfl).trans s471_0))))))
           have s726_6 : a720.eval (.tmp 6) = .slice A710 (k + 1) cp710 := (u720.here _ rfl)
           have s727_6 := ((q724 6 rfl).trans s726_6)
           have s728_11 := ((q724 11 rfl).trans ((u720.past 11 rfl).trans ((u710.past 11 rfl).trans ((p723 11 rfl).trans ((q618 11 rfl).trans ((q546 11 rfl).trans s473_11))))))
           have s729_12 := ((q724 12 rfl).trans ((u720.past 12 rfl).trans ((u710.past 12 rfl).trans ((p723 12 rfl).trans ((q618 12 rfl).trans ((q546 12 rfl).trans s474_12))))))
           have s730_13 : a724.eval (.tmp 13) = .int .i64 ((k : Int) + 1) := e724.2.1
           have x731 := (Touch.trans (Touch.via x713 t710.touch (fun jQ hQ => Or.inr (hbase jQ hQ.symm))) (Ext.touch t724))
           have f15_732 := (ArenaAt.keep (ArenaAt.same f15_718 fun kQ hQ => t710.touch.block _ (ArenaAt.lt f15_718 hQ) (fun eQ => hout1 kQ eQ.symm hQ)) t724)
           have t710.own_733 := (own_keep t710.own t724)
           refine then_norm ?_
           refine ⟨_, ⟨k + 1, _, Fp1, S1 ++ [0], A710, cp710, rfl, d724, z724, s725_0, s727_6, s728_11, s729_12, (s730_13.trans (by first | rfl | (congr 1; omega) | (simp; omega) | simp)), x731, f15_732, (by rw [← flat_push]; exact t710.own_733), by omega, hI.step (List.prefix_refl _) hI.wf (gw_same (most := most) hI.lv (m_pos _)) hgd.1 hgd.2, hpre.trans (List.prefix_refl _), hroom, hin, o717, no719⟩, ?_⟩; (show _ < _); rw [hmu7]; exact by omega
 ·have y19 := decide_eq_false c19
  have s734_14 : a17.eval (.tmp 14) = .bool (decide ((k : Int) < (L.length : Int))) := e17.1
  refine wp_cond_false (s734_14.trans (by rw [y19])) ?_
  refine wp_exit ?_
  repeat (first | (with_reducible refine then_exit ?_) | (with_reducible refine block_here ?_) | (with_reducible refine block_past rfl ?_))
  refine hK3 _ _ ?_
  have s735_6 := ((q17 6 rfl).trans s7_6)
  refine rgs mixed 117 [.eq (.slice Q1 k c1), .eq (.slice Q1 k c1), .eq (.int .i64 0)] [[(6, none)], [(116, some 0)], []] d17 z17 (by kernel_rfl) ⟨Ov rfl rfl fun _ _ T ⟨k6, _⟩ => ex_move (k6.trans s735_6), Ov rfl rfl fun _ _ T ⟨k116, _⟩ => ex_assign k116, Ov rfl rfl fun _ _ T _ => ex_assign rfl, trivial⟩ ?_
  intro a736 w736 d736 z736 t736 e736 q736
  refine wp_ret ?_
  have s737_4 : a736.eval (.tmp 4) = .slice Q1 k c1 := e736.2.1
  have s738_5 : a736.eval (.tmp 5) = .int .i64 0 := e736.2.2.1
  repeat (first | (with_reducible refine then_ret ?_) | (with_reducible refine block_ret ?_))
  refine rett (rs := [.tmp 4, .tmp 5]) (vs := [.slice Q1 k c1, .int .i64 0]) Try.results22 ⟨s737_4, ⟨s738_5, trivial⟩⟩ (by simp) d736 ?_
  have hkk : k = L.length := by omega
  subst hkk
  have f15_739 := (ArenaAt.keep (ArenaAt.keep f15 t17) t736)
  have x740 := (Touch.trans (Touch.trans x7 (Ext.touch t17)) (Ext.touch t736))
  have f16_741 := (own_keep (own_keep f16 t17) t736)
  exact ⟨_, _, _, _, _, rfl, f15_739, ⟨x740, hin⟩, f16_741, hout1, hbase, hroom, hI⟩

end Go.Proofs.Yticodddigaiipaa
