/-
 Contracts of functions of the given program, each proved by a walk through its code: what a call answers, and what it leaves of memory; conditions: those ahead of each theorem's colon.
-/
import Derived.Test.YticodddigaiipaaSatS13
set_option linter.unusedVariables false
set_option linter.unusedSimpArgs false
namespace Go.Proofs.Yticodddigaiipaa
open Go.RowKit

set_option maxRecDepth 100000 in
set_option maxHeartbeats 4000000 in
theorem c_SatCounts {w : World} {Q : Option Addr} {L : List Ex} {cq : Nat} (HR : Reads w (.slice Q L.length cq) 6 (flat exv L) L.length)(hc : L.length ≤ cq) (hLm : L.length ≤ 9223372036854775807) : Calls Try.prog 4 #[.slice Q L.length cq] w fun e w' => e = .returned (.bool true) ∧ Ext w w' := by
 refine enter 105 Try.ntmps4 Try.func4 rfl (Nat.le_of_ble_eq_true rfl) fun a0 d0 z0 hargs => ?_
 have s0_0 : a0.eval (.tmp 0) = .slice Q L.length cq := hargs 0 _ rfl
 have x0 := Touch.refl NoF w
 refine rgs mixed 105 [.eq (.bool false)] [[]] d0 z0 (by kernel_rfl) ⟨Ov rfl rfl fun _ _ T _ => ex_assign rfl, trivial⟩ ?_
 intro a1 w1 d1 z1 t1 e1 q1
 refine wp_seq_k fun K2 hK2 => ?_
 refine wp_seq ?_
 refine seq_begin ?_
 refine sp z1 rfl rfl (ex_move ((q1 0 rfl).trans s0_0)) ?_; intro a3 u3 z3
 have x6 := (Touch.trans x0 (Ext.touch t1))
 have rd5 := Reads.touch HR x6 (by decide) (reads_noF _ _)
 refine sc z3 rfl rfl (exl_call Try.func20 rfl rfl (cons_ops (u3.here _ rfl) nil_ops)) (c_light08 rd5 (by omega)) ?_
 rintro e4 w4 ⟨b4, he4, t4, hl4⟩; refine ⟨_, he4, ?_⟩; intro a4 u4 z4
 refine sp z4 rfl rfl (ex_not (u4.here _ rfl)) ?_; intro a7 u7 z7
 have d8 := (u7.defs.trans (u4.defs.trans (u3.defs.trans d1)))
 refine seq_end ?_
 refine then_norm ?_
 rcases Bool.eq_false_or_eq_true (!b4) with y9 | y9
 ·have c9 := y9
  have s10_17 : a7.eval (.tmp 17) = .bool (!b4) := (u7.here _ rfl)
  refine wp_cond_true (s10_17.trans (by rw [y9])) ?_
  refine wp_seq ?_
  refine seq_begin ?_
  refine scx z7 rfl rfl (exl_call Try.func21 rfl rfl nil_ops) (c_awake08) ?_; intro w11 a11 t11 u11 z11
  refine sp z11 rfl rfl (ex_assign (u11.here _ rfl)) ?_; intro a12 u12 z12
  have d13 := (u12.defs.trans (u11.defs.trans d8))
  refine seq_end ?_
  refine then_norm ?_
  refine wp_ret ?_
  have s14_2 : a12.eval (.tmp 2) = .bool true := (u12.here _ rfl)
  repeat (first | (with_reducible refine then_ret ?_) | (with_reducible refine block_ret ?_))
  refine retl (rs := [.tmp 2]) Try.results4 ⟨s14_2, trivial⟩ d13 ?_
  have x15 := (Touch.trans (Touch.trans x6 (Ext.touch t4)) (Ext.touch t11))
  exact ⟨rfl, (x15).ext⟩
 ·have c9 := y9
  have s16_17 : a7.eval (.tmp 17) = .bool (!b4) := (u7.here _ rfl)
  refine wp_cond_false (s16_17.trans (by rw [y9])) ?_
  refine wp_skip ?_
  repeat (with_reducible refine block_norm ?_)
  refine hK2 _ _ ?_
  have hRL := hl4 (by simpa using y9)
  have x17 := (Touch.trans x6 (Ext.touch t4))
  refine wp_seq ?_
  refine seq_begin ?_
  refine sc z7 rfl rfl (exl_call Try.func14 rfl rfl (cons_ops rfl nil_ops)) (c_New 262144 (by omega) (by omega)) ?_
  rintro e18 w18 ⟨b18, Fp18, he18, H18, t18, nw18⟩; refine ⟨_, he18, ?_⟩; intro a18 u18 z18
  have i19 : ∀ jQ, Fp18 jQ → (NoF) jQ ∨ w.heap.size ≤ jQ := fun jQ hQ => Or.inr (Nat.le_trans (Touch.size x17) (nw18 jQ hQ))
  refine sp z18 rfl rfl (ex_move (u18.here _ rfl)) ?_; intro a20 u20 z20
  refine sp z20 rfl rfl (ex_extract (u20.here _ rfl) rfl) ?_; intro a21 u21 z21
  refine sp z21 rfl rfl (ex_extract ((u21.past 19 rfl).trans (u20.here _ rfl)) rfl) ?_; intro a22 u22 z22
  refine sp z22 rfl rfl (ex_assign ((u22.past 21 rfl).trans (u21.here _ rfl))) ?_; intro a23 u23 z23
  refine sp z23 rfl rfl (ex_assign ((u23.past 22 rfl).trans (u22.here _ rfl))) ?_; intro a24 u24 z24
  have d25 := (u24.defs.trans (u23.defs.trans (u22.defs.trans (u21.defs.trans (u20.defs.trans (u18.defs.trans d8))))))
  refine seq_end ?_
  refine then_norm ?_
  refine wp_seq_k fun K26 hK26 => ?_
  have s27_3 : a23.eval (.tmp 3) = .pointer (some ⟨b18, 0, none⟩) := (u23.here _ rfl)
  have s28_3 := ((u24.past 3 rfl).trans s27_3)
  refine rgs mixed 105 [.eq (.pointer (some ⟨b18, 0, none⟩)), .eq (.bool false)] [[(3, none)], [(23, some 0)]] d25 z24 (by kernel_rfl) ⟨Ov rfl rfl fun _ _ T ⟨k3, _⟩ => ex_move (k3.trans s28_3), Ov rfl rfl fun _ _ T ⟨k23, _⟩ => ex_ptr_eql_nil k23 rfl (by kernel_rfl), trivial⟩ ?_
  intro a29 w29 d29 z29 t29 e29 q29
  have s30_24 : a29.eval (.tmp 24) = .bool false := e29.2.1
  refine wp_cond_false s30_24 ?_
  refine wp_skip ?_
  repeat (with_reducible refine block_norm ?_)
  refine hK26 _ _ ?_
  have h2k : 2 ^ (varsL L 104).length ≤ 128 := Nat.pow_le_pow_right (n := 2) (by omega) (show (varsL L 104).length ≤ 7 from hRL.2.2)
  have hbig : ((([n0, n0] : List N3).length + L.length * (3 * 2 ^ (varsL L 104).length) : Nat) : Int) ≤ 262144 := by have h9 := Nat.mul_le_mul hRL.2.1 (Nat.mul_le_mul_left 3 h2k); simp only [List.length_cons, List.length_nil]; omega
  refine wp_seq ?_
  refine seq_begin ?_
  refine sp z29 rfl rfl (ex_move ((q29 3 rfl).trans s28_3)) ?_; intro a31 u31 z31
  have p33 := fr4 q1 u3.past u4.past u7.past
  have p34 := fr4 u18.past u20.past u21.past u22.past
  have p35 := fr4 u23.past u24.past q29 u31.past
  refine sp z31 rfl rfl (ex_move ((p35 0 rfl).trans ((p34 0 rfl).trans ((p33 0 rfl).trans s0_0)))) ?_; intro a32 u32 z32
  have hout := fun jQ (hQ : (Value.slice Q L.length cq).ownBlock = some jQ) (h0 : 0 < L.length) (hF : Fp18 jQ) => absurd (b := False) (Reads.lt HR (by decide) hQ h0) (Nat.not_lt.2 (Nat.le_trans (Touch.size x17) (nw18 jQ hF)))
  have H18_37 := (ArenaAt.keep H18 t29)
  have x39 := (Touch.trans (Touch.trans x17 (Ext.touch t18)) (Ext.touch t29))
  have rd38 := Reads.touch HR x39 (by decide) (reads_noF _ _)
  refine sc z32 rfl rfl (exl_call Try.func22 rfl rfl (cons_ops ((u32.past 26 rfl).trans (u31.here _ rfl)) (cons_ops (u32.here _ rfl) nil_ops))) (c_Make H18_37 wf_new (by simp) (by omega) rd38 hRL.1 hRL.2.1 (lvIn_new _) hbig hout) ?_
  rintro e36 w36 ⟨Fp36, A36, S36, Q36, c36, he36, H36, mt36, ho36, out36, hb36, rm36, hI36⟩; refine ⟨_, he36, ?_⟩; intro a36 u36 z36
  have i40 := Mut.inF mt36 x39 i19
  have o41 := row_out (hb36) (fun kQ hQ => ArenaAt.lt H18_37 hQ)
  have no42 := row_base (hb36) (Touch.size x39)
  refine sp z36 rfl rfl (ex_move (u36.here _ rfl)) ?_; intro a43 u43 z43
  refine sp z43 rfl rfl (ex_extract (u43.here _ rfl) rfl) ?_; intro a44 u44 z44
  refine sp z44 rfl rfl (ex_extract ((u44.past 25 rfl).trans (u43.here _ rfl)) rfl) ?_; intro a45 u45 z45
  refine sp z45 rfl rfl (ex_assign ((u45.past 29 rfl).trans (u44.here _ rfl))) ?_; intro a46 u46 z46
  refine sp z46 rfl rfl (ex_assign ((u46.past 30 rfl).trans (u45.here _ rfl))) ?_; intro a47 u47 z47
  have d48 := (u47.defs.trans (u46.defs.trans (u45.defs.trans (u44.defs.trans (u43.defs.trans (u36.defs.trans (u32.defs.trans (u31.defs.trans d29))))))))
  refine seq_end ?_
  refine then_norm ?_
  refine wp_seq_k fun K49 hK49 => ?_
  have s50_6 : a47.eval (.tmp 6) = .int .i64 0 := (u47.here _ rfl)
  have s51_5 : a46.eval (.tmp 5) = .slice Q36 L.length c36 := (u46.here _ rfl)
  have s52_5 := ((u47.past 5 rfl).trans s51_5)
  have p54 := fr4 u32.past u36.past u43.past u44.past
  have p55 := fr4 p33 p34 p35 p54
  have s53_0 := ((u47.past 0 rfl).trans ((u46.past 0 rfl).trans ((u45.past 0 rfl).trans ((p55 0 rfl).trans s0_0))))
  refine rgs mixed 105 [.eq (.int .i64 0), .eq (.bool false), .eq (.bool false), .eq (.slice Q36 L.length c36), .eq (.int .i64 (L.length : Int)), .eq (.slice Q L.length cq), .eq (.int .i64 (L.length : Int)), .eq (.bool (decide ((L.length : Int) ≠ (L.length : Int)))), .eq (.bool (decide ((L.length : Int) ≠ (L.length : Int))))] [[(6, none)], [(31, some 0)], [(32, some 1)], [(5, none), (33, some 2)], [(34, some 3), (33, some 2)], [(0, none), (33, some 2)], [(36, some 5), (33, some 2)], [(35, some 4), (37, some 6), (33, some 2)], [(33, some 2), (38, some 7)]] d48 z47 (by kernel_rfl) ⟨Ov rfl rfl fun _ _ T ⟨k6, _⟩ => ex_move (k6.trans s50_6),
   Ov rfl rfl fun _ _ T ⟨k31, _⟩ => ex_neq (m := 0) (n := 0) k31 rfl,
   Ov rfl rfl fun _ _ T ⟨k32, _⟩ => ex_move k32,
   Oy rfl rfl rfl fun _ _ T ⟨k5, k33, _⟩ => ⟨k33, ex_move (k5.trans s52_5)⟩,
   Oy rfl rfl rfl fun _ _ T ⟨k34, k33, _⟩ => ⟨k33, ex_len (cons_ops k34 nil_ops) Try.underlying47⟩,
   Oy rfl rfl rfl fun _ _ T ⟨k0, k33, _⟩ => ⟨k33, ex_move (k0.trans s53_0)⟩,
   Oy rfl rfl rfl fun _ _ T ⟨k36, k33, _⟩ => ⟨k33, ex_len (cons_ops k36 nil_ops) Try.underlying45⟩,
   Oy rfl rfl rfl fun _ _ T ⟨k35, k37, k33, _⟩ => ⟨k33, ex_neq k35 k37⟩,
   Ov rfl rfl fun _ _ T ⟨k33, k38, _⟩ => ex_pick_f k33 k38,
   trivial⟩ ?_
  intro a56 w56 d56 z56 t56 e56 q56
  have x57 := (Touch.trans (Touch.mut x39 mt36 i19) (Ext.touch t56))
  by_cases c58 : (L.length : Int) ≠ (L.length : Int)
  ·have y58 := decide_eq_true c58
   have s59_39 : a56.eval (.tmp 39) = .bool (decide ((L.length : Int) ≠ (L.length : Int))) := e56.2.2.2.2.2.2.2.2.1
   refine wp_cond_true (s59_39.trans (by rw [y58])) ?_
   refine rgs mixed 105 [.eq (.bool false)] [[]] d56 z56 (by kernel_rfl) ⟨Ov rfl rfl fun _ _ T _ => ex_assign rfl, trivial⟩ ?_
   intro a60 w60 d60 z60 t60 e60 q60
   refine wp_ret ?_
   have s61_2 : a60.eval (.tmp 2) = .bool false := e60.1
   repeat (first | (with_reducible refine then_ret ?_) | (with_reducible refine block_ret ?_))
   refine retl (rs := [.tmp 2]) Try.results4 ⟨s61_2, trivial⟩ d60 ?_
   have x62 := (Touch.trans x57 (Ext.touch t60))
   exfalso; simp_all; done
  ·have y58 := decide_eq_false c58
   have s63_39 : a56.eval (.tmp 39) = .bool (decide ((L.length : Int) ≠ (L.length : Int))) := e56.2.2.2.2.2.2.2.2.1
   refine wp_cond_false (s63_39.trans (by rw [y58])) ?_
   refine wp_skip ?_
   repeat (with_reducible refine block_norm ?_)
   refine hK49 _ _ ?_
   refine wp_seq ?_
   refine seq_begin ?_
   refine sp z56 rfl rfl (ex_move ((q56 0 rfl).trans s53_0)) ?_; intro a64 u64 z64
   have rd66 := Reads.touch HR x57 (by decide) (reads_noF _ _)
   refine sc z64 rfl rfl (exl_call Try.func23 rfl rfl (cons_ops (u64.here _ rfl) nil_ops)) (c_Counts08 rd66 hc hRL.1 hRL.2.1 hRL.2.2) ?_
   rintro e65 w65 ⟨Q1_65, c1_65, Q2_65, c2_65, Q3_65, c3_65, C65, M65, B65, he65, t65, hO65, ho1_65, ho2_65, ho3_65, hb1_65, hb2_65, hb3_65⟩; refine ⟨_, he65, ?_⟩; intro a65 u65 z65
   have H36_68 := (ArenaAt.keep H36 t56)
   have o67 := row_out (hb1_65) (fun kQ hQ => ArenaAt.lt H36_68 hQ)
   have ho36_70 := (own_keep ho36 t56)
   have no69 := row_nor (hb1_65) (fun jQ hQ => own_lt ho36_70 hQ)
   have no71 := row_base (hb1_65) (Touch.size x57)
   have o72 := row_out (hb2_65) (fun kQ hQ => ArenaAt.lt H36_68 hQ)
   have no73 := row_nor (hb2_65) (fun jQ hQ => own_lt ho36_70 hQ)
   have no74 := row_base (hb2_65) (Touch.size x57)
   have o75 := row_out (hb3_65) (fun kQ hQ => ArenaAt.lt H36_68 hQ)
   have no76 := row_nor (hb3_65) (fun jQ hQ => own_lt ho36_70 hQ)
   have no77 := row_base (hb3_65) (Touch.size x57)
   refine sp z65 rfl rfl (ex_move (u65.here _ rfl)) ?_; intro a78 u78 z78
   refine sp z78 rfl rfl (ex_extract (u78.here _ rfl) rfl) ?_; intro a79 u79 z79
   refine sp z79 rfl rfl (ex_extract ((u79.past 40 rfl).trans (u78.here _ rfl)) rfl) ?_; intro a80 u80 z80
   refine sp z80 rfl rfl (ex_extract ((u80.past 40 rfl).trans ((u79.past 40 rfl).trans (u78.here _ rfl))) rfl) ?_; intro a81 u81 z81
   refine sp z81 rfl rfl (ex_assign ((u81.past 43 rfl).trans ((u80.past 43 rfl).trans (u79.here _ rfl)))) ?_; intro a82 u82 z82
   refine sp z82 rfl rfl (ex_assign ((u82.past 44 rfl).trans ((u81.past 44 rfl).trans (u80.here _ rfl)))) ?_; intro a83 u83 z83
   refine sp z83 rfl rfl (ex_assign ((u83.past 45 rfl).trans ((u82.past 45 rfl).trans (u81.here _ rfl)))) ?_; intro a84 u84 z84
   have d85 := (u84.defs.trans (u83.defs.trans (u82.defs.trans (u81.defs.trans (u80.defs.trans (u79.defs.trans (u78.defs.trans (u65.defs.trans (u64.defs.trans d56)))))))))
   refine seq_end ?_
   refine then_norm ?_
   refine wp_seq_k fun K86 hK86 => ?_
   have p88 := fr4 u64.past u65.past u78.past u79.past
   have p89 := fr4 u80.past u81.past u82.past u83.past
   have s87_5 := ((u84.past 5 rfl).trans ((p89 5 rfl).trans ((p88 5 rfl).trans ((q56 5 rfl).trans s52_5))))
   refine rgs mixed 105 [.eq (.slice Q36 L.length c36), .eq (.int .i64 (L.length : Int)), .eq (.int .i64 0)] [[(5, none)], [(46, some 0)], []] d85 z84 (by kernel_rfl) ⟨Ov rfl rfl fun _ _ T ⟨k5, _⟩ => ex_move (k5.trans s87_5), Ov rfl rfl fun _ _ T ⟨k46, _⟩ => ex_len (cons_ops k46 nil_ops) Try.underlying47, Ov rfl rfl fun _ _ T _ => ex_move rfl, trivial⟩ ?_
   intro a90 w90 d90 z90 t90 e90 q90
   refine wp_block ?_
   have p93 := fr4 u45.past u46.past u47.past q56
   have s92_3 := ((q90 3 rfl).trans ((u84.past 3 rfl).trans ((p89 3 rfl).trans ((p88 3 rfl).trans ((p93 3 rfl).trans ((p54 3 rfl).trans ((u31.past 3 rfl).trans ((q29 3 rfl).trans s28_3))))))))
   have s94_7 : a82.eval (.tmp 7) = .slice Q1_65 L.length c1_65 := (u82.here _ rfl)
   have s95_7 := ((q90 7 rfl).trans ((u84.past 7 rfl).trans ((u83.past 7 rfl).trans s94_7)))
   have s96_8 : a83.eval (.tmp 8) = .slice Q2_65 L.length c2_65 := (u83.here _ rfl)
   have s97_8 := ((q90 8 rfl).trans ((u84.past 8 rfl).trans s96_8))
   have s98_9 : a84.eval (.tmp 9) = .slice Q3_65 L.length c3_65 := (u84.here _ rfl)
   have s99_9 := ((q90 9 rfl).trans s98_9)
   have s100_46 : a90.eval (.tmp 46) = .slice Q36 L.length c36 := e90.1
   have s101_47 : a90.eval (.tmp 47) = .int .i64 (L.length : Int) := e90.2.1
   have s102_48 : a90.eval (.tmp 48) = .int .i64 0 := e90.2.2.1
   have x103 := (Touch.trans (Touch.trans x57 (Ext.touch t65)) (Ext.touch t90))
   have H36_104 := (ArenaAt.keep (ArenaAt.keep H36_68 t65) t90)
   have ho36_106 := (own_keep (own_keep ho36_70 t65) t90)
   have ho1_108 := (own_keep ho1_65 t90)
   have ho2_110 := (own_keep ho2_65 t90)
   have ho3_112 := (own_keep ho3_65 t90)
   refine wp_loopg (σ := Nat) (fun nQ aQ wQ => ∃ i : Nat, nQ = (L.length - i) ∧
    aQ.defers = [] ∧
    aQ.tmps.size = 105 ∧
    aQ.eval (.tmp 3) = .pointer (some ⟨b18, 0, none⟩) ∧
    aQ.eval (.tmp 7) = .slice Q1_65 L.length c1_65 ∧
    aQ.eval (.tmp 8) = .slice Q2_65 L.length c2_65 ∧
    aQ.eval (.tmp 9) = .slice Q3_65 L.length c3_65 ∧
    aQ.eval (.tmp 46) = .slice Q36 L.length c36 ∧
    aQ.eval (.tmp 47) = .int .i64 (L.length : Int) ∧
    aQ.eval (.tmp 48) = .int .i64 (i : Int) ∧
    Touch (NoF) w wQ ∧
    ArenaAt wQ b18 Fp36 A36 262144 ∧
    wQ.ownsRow 0 3 1 (.slice Q36 L.length c36) (L.length) (flat inv1 S36) ∧
    wQ.ownsRow 0 61 2 (.slice Q1_65 L.length c1_65) (L.length) (flat c2v C65) ∧
    wQ.ownsRow 0 31 5 (.slice Q2_65 L.length c2_65) (L.length) (flat h5v M65) ∧
    wQ.ownsRow 0 4 1 (.slice Q3_65 L.length c3_65) (L.length) (flat bov1 B65) ∧
    (i ≤ L.length)) (fun nQ => nQ) _ ⟨0, rfl, d90, z90, s92_3, s95_7, s97_8, s99_9, s100_46, s101_47, (s102_48.trans (by first | rfl | (congr 1; omega) | (simp; omega) | simp)), x103, H36_104, ho36_106, ho1_108, ho2_110, ho3_112, Nat.zero_le _⟩ ?_
   rintro nQ91 a91 w91 ⟨i, hmu91, d91, z91, s91_3, s91_7, s91_8, s91_9, s91_46, s91_47, s91_48, x91, H36_105, ho36_107, ho1_109, ho2_111, ho3_113, hi⟩
   refine rgs mixed 105 [.eq (.bool (decide ((i : Int) < (L.length : Int))))] [[(48, none), (47, none)]] d91 z91 (by kernel_rfl) ⟨Ov rfl rfl fun _ _ T ⟨k48, k47, _⟩ => ex_lss (k48.trans s91_48) (k47.trans s91_47), trivial⟩ ?_
   intro a114 w114 d114 z114 t114 e114 q114
   refine wp_seq_k fun K115 hK115 => ?_
   by_cases c116 : (i : Int) < (L.length : Int)
   ·have y116 := decide_eq_true c116
    have s117_49 : a114.eval (.tmp 49) = .bool (decide ((i : Int) < (L.length : Int))) := e114.1
    refine wp_cond_true (s117_49.trans (by rw [y116])) ?_
    refine wp_skip ?_
    repeat (with_reducible refine block_norm ?_)
    refine hK115 _ _ ?_
    refine wp_seq_k fun K118 hK118 => ?_
    refine wp_block ?_
    have s119_48 := ((q114 48 rfl).trans s91_48)
    have ho36_120 := (own_keep ho36_107 t114)
    have s121_46 := ((q114 46 rfl).trans s91_46)
    refine rgs mixed 105 [.eq (.int .i64 (i : Int)), .eq (.pointer (some ⟨(rowB Q36), Int.toNat (i : Int) * 1, none⟩)), .eq (.int .i64 (at_ S36 (0 : Int) (i : Int))), .eq (.int .i64 (i : Int)), .eq (.int .i64 (at_ S36 (0 : Int) (i : Int)))] [[(48, none)], [(46, none), (48, none)], [(51, some 1)], [(50, some 0)], [(52, some 2)]] d114 z114 (by kernel_rfl) ⟨Ov rfl rfl fun _ _ T ⟨k48, _⟩ => ex_move (k48.trans s119_48),
     Ov rfl rfl fun _ _ T ⟨k46, k48, _⟩ => ex_ixa Try.underlying47 (Try.sizeOf3 _) (k46.trans s121_46) (own_eqA ho36_120 (by omega)) (k48.trans s119_48) (by omega) (by omega),
     Ov rfl rfl fun _ _ T ⟨k51, _⟩ => ex_load k51 (Try.isAgg3 _) (own_at (own_keep ho36_120 T.ext) (own_eqA ho36_120 (by omega)) inv1_1 (at_some' (d := (0 : Int)) (hI36.sl.symm) (by omega) (by omega)) 0 rfl),
     Ov rfl rfl fun _ _ T ⟨k50, _⟩ => ex_assign k50,
     Ov rfl rfl fun _ _ T ⟨k52, _⟩ => ex_assign k52,
     trivial⟩ ?_
    intro a122 w122 d122 z122 t122 e122 q122
    have hok := hI36.ok (i : Int) (by omega) (by omega)
    refine wp_seq ?_
    refine seq_begin ?_
    refine sp z122 rfl rfl (ex_move ((q122 3 rfl).trans ((q114 3 rfl).trans s91_3))) ?_; intro a123 u123 z123
    refine sp z123 rfl rfl (ex_move ((u123.past 11 rfl).trans e122.2.2.2.2.1)) ?_; intro a124 u124 z124
    have H36_126 := (ArenaAt.keep (ArenaAt.keep H36_105 t114) t122)
    refine scx z124 rfl rfl (exl_call Try.func24 rfl rfl (cons_ops ((u124.past 53 rfl).trans (u123.here _ rfl)) (cons_ops (u124.here _ rfl) nil_ops))) (c_satCount H36_126 hI36.wf (at_ S36 (0 : Int) (i : Int)) hok.1) ?_; intro w125 a125 t125 u125 z125
    refine salloc z125 rfl (zv_57 _) ?_; intro b127 w127 a127 t127 g127 hb127 u127 z127
    have ho36_129 := (own_keep (own_keep ho36_120 t122) t125)
    have no128 := no_new ho36_129 g127
    have ho1_131 := (own_keep (own_keep (own_keep ho1_109 t114) t122) t125)
    have no130 := no_new ho1_131 g127
    have ho2_133 := (own_keep (own_keep (own_keep ho2_111 t114) t122) t125)
    have no132 := no_new ho2_133 g127
    have ho3_135 := (own_keep (own_keep (own_keep ho3_113 t114) t122) t125)
    have no134 := no_new ho3_135 g127
    have H36_137 := (ArenaAt.keep H36_126 t125)
    have o136 : ¬ Fp36 b127 := fun hQ => by have := ArenaAt.lt H36_137 hQ; omega
    have x139 := (Touch.trans (Touch.trans (Touch.trans x91 (Ext.touch t114)) (Ext.touch t122)) (Ext.touch t125))
    have yb127_138 := Nat.le_trans (Touch.size x139) g127
    refine sstore (cs := [.int .u64 0, .int .u64 0]) (vs := [.int .u64 (hiW (countF A36 (at_ S36 (0 : Int) (i : Int)))), .int .u64 (loW (countF A36 (at_ S36 (0 : Int) (i : Int))))]) (cs' := [.int .u64 (hiW (countF A36 (at_ S36 (0 : Int) (i : Int)))), .int .u64 (loW (countF A36 (at_ S36 (0 : Int) (i : Int))))]) z127 rfl (u127.here _ rfl) ((u127.past 55 rfl).trans (u125.here _ rfl)) hb127 (Try.sizeOf57 _) rfl rfl (by decide) (Nat.le_of_ble_eq_true rfl) rfl rfl ?_; intro w140 a140 t140 u140 z140
    have d141 := (u140.defs.trans (u127.defs.trans (u125.defs.trans (u124.defs.trans (u123.defs.trans d122)))))
    refine seq_end ?_
    refine then_norm ?_
    refine wp_seq ?_
    refine seq_begin ?_
    have p143 := fr4 q114 q122 u123.past u124.past
    refine sp z140 rfl rfl (ex_move ((u140.past 3 rfl).trans ((u127.past 3 rfl).trans ((u125.past 3 rfl).trans ((p143 3 rfl).trans s91_3))))) ?_; intro a142 u142 z142
    have p145 := fr4 u125.past u127.past u140.past u142.past
    refine sp z142 rfl rfl (ex_move ((p145 11 rfl).trans ((u124.past 11 rfl).trans ((u123.past 11 rfl).trans e122.2.2.2.2.1)))) ?_; intro a144 u144 z144
    have H36_147 := (ArenaAt.turn (ArenaAt.keep H36_137 t127) t140 o136)
    refine scx z144 rfl rfl (exl_call Try.func25 rfl rfl (cons_ops ((u144.past 57 rfl).trans (u142.here _ rfl)) (cons_ops (u144.here _ rfl) nil_ops))) (c_Least H36_147 hI36.wf (at_ S36 (0 : Int) (i : Int)) hok.1) ?_; intro w146 a146 t146 u146 z146
    refine sp z146 rfl rfl (ex_move (u146.here _ rfl)) ?_; intro a148 u148 z148
    refine sp z148 rfl rfl (ex_extract (u148.here _ rfl) rfl) ?_; intro a149 u149 z149
    refine sp z149 rfl rfl (ex_extract ((u149.past 56 rfl).trans (u148.here _ rfl)) rfl) ?_; intro a150 u150 z150
    refine salloc z150 rfl (zv_31 _) ?_; intro b151 w151 a151 t151 g151 hb151 u151 z151
    have ho36_153 := (own_keep (own_touch (own_keep ho36_129 t127) t140.touch (fun jQ hQ eQ => no128 jQ hQ eQ)) t146)
    have no152 := no_new ho36_153 g151
    have ho1_155 := (own_keep (own_touch (own_keep ho1_131 t127) t140.touch (fun jQ hQ eQ => no130 jQ hQ eQ)) t146)
    have no154 := no_new ho1_155 g151
    have ho2_157 := (own_keep (own_touch (own_keep ho2_133 t127) t140.touch (fun jQ hQ eQ => no132 jQ hQ eQ)) t146)
    have no156 := no_new ho2_157 g151
    have ho3_159 := (own_keep (own_touch (own_keep ho3_135 t127) t140.touch (fun jQ hQ eQ => no134 jQ hQ eQ)) t146)
    have no158 := no_new ho3_159 g151
    have t140.here_161 := (Ext.keep t146 t140.here)
    have n160_b127_b151 := ne_lt (lt_of t140.here_161) g151
    have H36_163 := (ArenaAt.keep H36_147 t146)
    have o162 : ¬ Fp36 b151 := fun hQ => by have := ArenaAt.lt H36_163 hQ; omega
    have x165 := (Touch.trans (Touch.turn (Touch.trans x139 (Ext.touch t127)) t140 (Or.inr yb127_138)) (Ext.touch t146))
    have yb151_164 := Nat.le_trans (Touch.size x165) g151
    refine sstore (cs := [.int .u32 0, .int .u32 0, .int .u8 0, .int .u16 0, .int .u16 0]) (vs := [.int .u32 ((leastV A36 (at_ S36 (0 : Int) (i : Int))).1), .int .u32 ((leastV A36 (at_ S36 (0 : Int) (i : Int))).2.1), .int .u8 ((leastV A36 (at_ S36 (0 : Int) (i : Int))).2.2.1), .int .u16 ((leastV A36 (at_ S36 (0 : Int) (i : Int))).2.2.2.1), .int .u16 ((leastV A36 (at_ S36 (0 : Int) (i : Int))).2.2.2.2)]) (cs' := [.int .u32 ((leastV A36 (at_ S36 (0 : Int) (i : Int))).1), .int .u32 ((leastV A36 (at_ S36 (0 : Int) (i : Int))).2.1), .int .u8 ((leastV A36 (at_ S36 (0 : Int) (i : Int))).2.2.1), .int .u16 ((leastV A36 (at_ S36 (0 : Int) (i : Int))).2.2.2.1), .int .u16 ((leastV A36 (at_ S36 (0 : Int) (i : Int))).2.2.2.2)]) z151 rfl (u151.here _ rfl) ((u151.past 60 rfl).trans ((u150.past 60 rfl).trans (u149.here _ rfl))) hb151 (Try.sizeOf31 _) rfl rfl (by decide) (Nat.le_of_ble_eq_true rfl) rfl rfl ?_; intro w166 a166 t166 u166 z166
    refine sp z166 rfl rfl (ex_assign ((u166.past 61 rfl).trans ((u151.past 61 rfl).trans (u150.here _ rfl)))) ?_; intro a167 u167 z167
    have d168 := (u167.defs.trans (u166.defs.trans (u151.defs.trans (u150.defs.trans (u149.defs.trans (u148.defs.trans (u146.defs.trans (u144.defs.trans (u142.defs.trans d141)))))))))
    refine seq_end ?_
    refine then_norm ?_
    have e1 := law_count hRL.1 (i := (i : Int)) (by omega) (by omega) hI36.wf hok.1 hok.2; have e2 := law_least hRL.1 (i := (i : Int)) (by omega) (by omega) hI36.wf hok.1 hok.2; have e3 := law_some hRL.1 (i := (i : Int)) (by omega) (by omega) hI36.wf hok.1 hok.2; have e4 := law_zero hI36.wf hok.1
    have d1 := hO65.c (i : Int) (by omega) (by omega); have d2 := hO65.m (i : Int) (by omega) (by omega); have d3 := hO65.s (i : Int) (by omega) (by omega)
    have s169_12 : a127.eval (.tmp 12) = .pointer (some ⟨b127, 0, none⟩) := (u127.here _ rfl)
    have p171 := fr4 u144.past u146.past u148.past u149.past
    have p172 := fr4 u150.past u151.past u166.past u167.past
    have s170_12 := ((p172 12 rfl).trans ((p171 12 rfl).trans ((u142.past 12 rfl).trans ((u140.past 12 rfl).trans s169_12))))
    have t140.here_173 := (Turn.keep t166 (Ext.keep t151 t140.here_161) n160_b127_b151)
    have p175 := fr4 p143 p145 p171 p172
    have s174_7 := ((p175 7 rfl).trans s91_7)
    have s176_10 : a122.eval (.tmp 10) = .int .i64 (i : Int) := e122.2.2.2.1
    have s177_10 := ((p172 10 rfl).trans ((p171 10 rfl).trans ((p145 10 rfl).trans ((u124.past 10 rfl).trans ((u123.past 10 rfl).trans s176_10)))))
    have ho1_178 := (own_touch (own_keep ho1_155 t151) t166.touch (fun jQ hQ eQ => no154 jQ hQ eQ))
    have s179_14 : a167.eval (.tmp 14) = .bool (decide ((at_ S36 (0 : Int) (i : Int)) ≠ 0)) := (u167.here _ rfl)
    have s180_9 := ((p175 9 rfl).trans s91_9)
    have ho3_181 := (own_touch (own_keep ho3_159 t151) t166.touch (fun jQ hQ eQ => no158 jQ hQ eQ))
    have s182_13 : a151.eval (.tmp 13) = .pointer (some ⟨b151, 0, none⟩) := (u151.here _ rfl)
    have s183_13 := ((u167.past 13 rfl).trans ((u166.past 13 rfl).trans s182_13))
    have s184_8 := ((p175 8 rfl).trans s91_8)
    have ho2_185 := (own_touch (own_keep ho2_157 t151) t166.touch (fun jQ hQ eQ => no156 jQ hQ eQ))
    refine rgs mixed 105 [.eq (.pointer (some ⟨b127, 0, none⟩)), .eq (.int .u64 (hiW (countF A36 (at_ S36 (0 : Int) (i : Int))))), .eq (.slice Q1_65 L.length c1_65), .eq (.int .i64 (i : Int)), .eq (.pointer (some ⟨(rowB Q1_65), Int.toNat (i : Int) * 2, none⟩)), .eq (.pointer (some ⟨(rowB Q1_65), Int.toNat (i : Int) * 2, none⟩)), .eq (.int .u64 ((at_ C65 c20 (i : Int)).1)), .eq (.bool (decide ((hiW (countF A36 (at_ S36 (0 : Int) (i : Int)))) ≠ ((at_ C65 c20 (i : Int)).1)))), .eq (.bool (decide ((hiW (countF A36 (at_ S36 (0 : Int) (i : Int)))) ≠ ((at_ C65 c20 (i : Int)).1)))), .eq (if (decide ((hiW (countF A36 (at_ S36 (0 : Int) (i : Int)))) ≠ ((at_ C65 c20 (i : Int)).1))) = false then .pointer (some ⟨b127, 1, none⟩) else undef), .eq (if (decide ((hiW (countF A36 (at_ S36 (0 : Int) (i : Int)))) ≠ ((at_ C65 c20 (i : Int)).1))) = false then .int .u64 (loW (countF A36 (at_ S36 (0 : Int) (i : Int)))) else undef), .eq (if (decide ((hiW (countF A36 (at_ S36 (0 : Int) (i : Int)))) ≠ ((at_ C65 c20 (i : Int)).1))) = false then .slice Q1_65 L.length c1_65 else undef), .eq (if (decide ((hiW (countF A36 (at_ S36 (0 : Int) (i : Int)))) ≠ ((at_ C65 c20 (i : Int)).1))) = false then .int .i64 (i : Int) else undef), .eq (if (decide ((hiW (countF A36 (at_ S36 (0 : Int) (i : Int)))) ≠ ((at_ C65 c20 (i : Int)).1))) = false then .pointer (some ⟨(rowB Q1_65), Int.toNat (i : Int) * 2, none⟩) else undef), .eq (if (decide ((hiW (countF A36 (at_ S36 (0 : Int) (i : Int)))) ≠ ((at_ C65 c20 (i : Int)).1))) = false then .pointer (some ⟨(rowB Q1_65), Int.toNat (i : Int) * 2 + 1, none⟩) else undef), .eq (if (decide ((hiW (countF A36 (at_ S36 (0 : Int) (i : Int)))) ≠ ((at_ C65 c20 (i : Int)).1))) = false then .int .u64 ((at_ C65 c20 (i : Int)).2) else undef), .eq (if (decide ((hiW (countF A36 (at_ S36 (0 : Int) (i : Int)))) ≠ ((at_ C65 c20 (i : Int)).1))) = false then .bool (decide ((loW (countF A36 (at_ S36 (0 : Int) (i : Int)))) ≠ ((at_ C65 c20 (i : Int)).2))) else undef), .eq (.bool ((decide ((hiW (countF A36 (at_ S36 (0 : Int) (i : Int)))) ≠ ((at_ C65 c20 (i : Int)).1))) || (decide ((loW (countF A36 (at_ S36 (0 : Int) (i : Int)))) ≠ ((at_ C65 c20 (i : Int)).2))))), .eq (.bool ((decide ((hiW (countF A36 (at_ S36 (0 : Int) (i : Int)))) ≠ ((at_ C65 c20 (i : Int)).1))) || (decide ((loW (countF A36 (at_ S36 (0 : Int) (i : Int)))) ≠ ((at_ C65 c20 (i : Int)).2))))), .eq (if ((decide ((hiW (countF A36 (at_ S36 (0 : Int) (i : Int)))) ≠ ((at_ C65 c20 (i : Int)).1))) || (decide ((loW (countF A36 (at_ S36 (0 : Int) (i : Int)))) ≠ ((at_ C65 c20 (i : Int)).2)))) = false then .bool (decide ((at_ S36 (0 : Int) (i : Int)) ≠ 0)) else undef), .eq (if ((decide ((hiW (countF A36 (at_ S36 (0 : Int) (i : Int)))) ≠ ((at_ C65 c20 (i : Int)).1))) || (decide ((loW (countF A36 (at_ S36 (0 : Int) (i : Int)))) ≠ ((at_ C65 c20 (i : Int)).2)))) = false then .slice Q3_65 L.length c3_65 else undef), .eq (if ((decide ((hiW (countF A36 (at_ S36 (0 : Int) (i : Int)))) ≠ ((at_ C65 c20 (i : Int)).1))) || (decide ((loW (countF A36 (at_ S36 (0 : Int) (i : Int)))) ≠ ((at_ C65 c20 (i : Int)).2)))) = false then .int .i64 (i : Int) else undef), .eq (if ((decide ((hiW (countF A36 (at_ S36 (0 : Int) (i : Int)))) ≠ ((at_ C65 c20 (i : Int)).1))) || (decide ((loW (countF A36 (at_ S36 (0 : Int) (i : Int)))) ≠ ((at_ C65 c20 (i : Int)).2)))) = false then .pointer (some ⟨(rowB Q3_65), Int.toNat (i : Int) * 1, none⟩) else undef), .eq (if ((decide ((hiW (countF A36 (at_ S36 (0 : Int) (i : Int)))) ≠ ((at_ C65 c20 (i : Int)).1))) || (decide ((loW (countF A36 (at_ S36 (0 : Int) (i : Int)))) ≠ ((at_ C65 c20 (i : Int)).2)))) = false then .bool (at_ B65 false (i : Int)) else undef), .eq (if ((decide ((hiW (countF A36 (at_ S36 (0 : Int) (i : Int)))) ≠ ((at_ C65 c20 (i : Int)).1))) || (decide ((loW (countF A36 (at_ S36 (0 : Int) (i : Int)))) ≠ ((at_ C65 c20 (i : Int)).2)))) = false then .bool (!((decide ((at_ S36 (0 : Int) (i : Int)) ≠ 0)) == (at_ B65 false (i : Int)))) else undef), .eq (.bool (((decide ((hiW (countF A36 (at_ S36 (0 : Int) (i : Int)))) ≠ ((at_ C65 c20 (i : Int)).1))) || (decide ((loW (countF A36 (at_ S36 (0 : Int) (i : Int)))) ≠ ((at_ C65 c20 (i : Int)).2)))) || (!((decide ((at_ S36 (0 : Int) (i : Int)) ≠ 0)) == (at_ B65 false (i : Int)))))), .eq (.bool (((decide ((hiW (countF A36 (at_ S36 (0 : Int) (i : Int)))) ≠ ((at_ C65 c20 (i : Int)).1))) || (decide ((loW (countF A36 (at_ S36 (0 : Int) (i : Int)))) ≠ ((at_ C65 c20 (i : Int)).2)))) || (!((decide ((at_ S36 (0 : Int) (i : Int)) ≠ 0)) == (at_ B65 false (i : Int)))))), .eq (if (((decide ((hiW (countF A36 (at_ S36 (0 : Int) (i : Int)))) ≠ ((at_ C65 c20 (i : Int)).1))) || (decide ((loW (countF A36 (at_ S36 (0 : Int) (i : Int)))) ≠ ((at_ C65 c20 (i : Int)).2)))) || (!((decide ((at_ S36 (0 : Int) (i : Int)) ≠ 0)) == (at_ B65 false (i : Int))))) = false then .agg #[.int .u32 ((leastV A36 (at_ S36 (0 : Int) (i : Int))).1), .int .u32 ((leastV A36 (at_ S36 (0 : Int) (i : Int))).2.1), .int .u8 ((leastV A36 (at_ S36 (0 : Int) (i : Int))).2.2.1), .int .u16 ((leastV A36 (at_ S36 (0 : Int) (i : Int))).2.2.2.1), .int .u16 ((leastV A36 (at_ S36 (0 : Int) (i : Int))).2.2.2.2)] else undef), .eq (if (((decide ((hiW (countF A36 (at_ S36 (0 : Int) (i : Int)))) ≠ ((at_ C65 c20 (i : Int)).1))) || (decide ((loW (countF A36 (at_ S36 (0 : Int) (i : Int)))) ≠ ((at_ C65 c20 (i : Int)).2)))) || (!((decide ((at_ S36 (0 : Int) (i : Int)) ≠ 0)) == (at_ B65 false (i : Int))))) = false then .slice Q2_65 L.length c2_65 else undef), .eq (if (((decide ((hiW (countF A36 (at_ S36 (0 : Int) (i : Int)))) ≠ ((at_ C65 c20 (i : Int)).1))) || (decide ((loW (countF A36 (at_ S36 (0 : Int) (i : Int)))) ≠ ((at_ C65 c20 (i : Int)).2)))) || (!((decide ((at_ S36 (0 : Int) (i : Int)) ≠ 0)) == (at_ B65 false (i : Int))))) = false then .int .i64 (i : Int) else undef), .eq (if (((decide ((hiW (countF A36 (at_ S36 (0 : Int) (i : Int)))) ≠ ((at_ C65 c20 (i : Int)).1))) || (decide ((loW (countF A36 (at_ S36 (0 : Int) (i : Int)))) ≠ ((at_ C65 c20 (i : Int)).2)))) || (!((decide ((at_ S36 (0 : Int) (i : Int)) ≠ 0)) == (at_ B65 false (i : Int))))) = false then .pointer (some ⟨(rowB Q2_65), Int.toNat (i : Int) * 5, none⟩) else undef), .eq (if (((decide ((hiW (countF A36 (at_ S36 (0 : Int) (i : Int)))) ≠ ((at_ C65 c20 (i : Int)).1))) || (decide ((loW (countF A36 (at_ S36 (0 : Int) (i : Int)))) ≠ ((at_ C65 c20 (i : Int)).2)))) || (!((decide ((at_ S36 (0 : Int) (i : Int)) ≠ 0)) == (at_ B65 false (i : Int))))) = false then .agg #[.int .u32 ((at_ M65 h50 (i : Int)).1), .int .u32 ((at_ M65 h50 (i : Int)).2.1), .int .u8 ((at_ M65 h50 (i : Int)).2.2.1), .int .u16 ((at_ M65 h50 (i : Int)).2.2.2.1), .int .u16 ((at_ M65 h50 (i : Int)).2.2.2.2)] else undef), .eq (if (((decide ((hiW (countF A36 (at_ S36 (0 : Int) (i : Int)))) ≠ ((at_ C65 c20 (i : Int)).1))) || (decide ((loW (countF A36 (at_ S36 (0 : Int) (i : Int)))) ≠ ((at_ C65 c20 (i : Int)).2)))) || (!((decide ((at_ S36 (0 : Int) (i : Int)) ≠ 0)) == (at_ B65 false (i : Int))))) = false then .bool (!(((leastV A36 (at_ S36 (0 : Int) (i : Int))).1) == ((at_ M65 h50 (i : Int)).1) && (((leastV A36 (at_ S36 (0 : Int) (i : Int))).2.1) == ((at_ M65 h50 (i : Int)).2.1) && (((leastV A36 (at_ S36 (0 : Int) (i : Int))).2.2.1) == ((at_ M65 h50 (i : Int)).2.2.1) && (((leastV A36 (at_ S36 (0 : Int) (i : Int))).2.2.2.1) == ((at_ M65 h50 (i : Int)).2.2.2.1) && (((leastV A36 (at_ S36 (0 : Int) (i : Int))).2.2.2.2) == ((at_ M65 h50 (i : Int)).2.2.2.2) && true)))))) else undef), .eq (.bool ((((decide ((hiW (countF A36 (at_ S36 (0 : Int) (i : Int)))) ≠ ((at_ C65 c20 (i : Int)).1))) || (decide ((loW (countF A36 (at_ S36 (0 : Int) (i : Int)))) ≠ ((at_ C65 c20 (i : Int)).2)))) || (!((decide ((at_ S36 (0 : Int) (i : Int)) ≠ 0)) == (at_ B65 false (i : Int))))) || (!(((leastV A36 (at_ S36 (0 : Int) (i : Int))).1) == ((at_ M65 h50 (i : Int)).1) && (((leastV A36 (at_ S36 (0 : Int) (i : Int))).2.1) == ((at_ M65 h50 (i : Int)).2.1) && (((leastV A36 (at_ S36 (0 : Int) (i : Int))).2.2.1) == ((at_ M65 h50 (i : Int)).2.2.1) && (((leastV A36 (at_ S36 (0 : Int) (i : Int))).2.2.2.1) == ((at_ M65 h50 (i : Int)).2.2.2.1) && (((leastV A36 (at_ S36 (0 : Int) (i : Int))).2.2.2.2) == ((at_ M65 h50 (i : Int)).2.2.2.2) && true)))))))), .eq (.bool ((((decide ((hiW (countF A36 (at_ S36 (0 : Int) (i : Int)))) ≠ ((at_ C65 c20 (i : Int)).1))) || (decide ((loW (countF A36 (at_ S36 (0 : Int) (i : Int)))) ≠ ((at_ C65 c20 (i : Int)).2)))) || (!((decide ((at_ S36 (0 : Int) (i : Int)) ≠ 0)) == (at_ B65 false (i : Int))))) || (!(((leastV A36 (at_ S36 (0 : Int) (i : Int))).1) == ((at_ M65 h50 (i : Int)).1) && (((leastV A36 (at_ S36 (0 : Int) (i : Int))).2.1) == ((at_ M65 h50 (i : Int)).2.1) && (((leastV A36 (at_ S36 (0 : Int) (i : Int))).2.2.1) == ((at_ M65 h50 (i : Int)).2.2.1) && (((leastV A36 (at_ S36 (0 : Int) (i : Int))).2.2.2.1) == ((at_ M65 h50 (i : Int)).2.2.2.1) && (((leastV A36 (at_ S36 (0 : Int) (i : Int))).2.2.2.2) == ((at_ M65 h50 (i : Int)).2.2.2.2) && true)))))))), .eq (if ((((decide ((hiW (countF A36 (at_ S36 (0 : Int) (i : Int)))) ≠ ((at_ C65 c20 (i : Int)).1))) || (decide ((loW (countF A36 (at_ S36 (0 : Int) (i : Int)))) ≠ ((at_ C65 c20 (i : Int)).2)))) || (!((decide ((at_ S36 (0 : Int) (i : Int)) ≠ 0)) == (at_ B65 false (i : Int))))) || (!(((leastV A36 (at_ S36 (0 : Int) (i : Int))).1) == ((at_ M65 h50 (i : Int)).1) && (((leastV A36 (at_ S36 (0 : Int) (i : Int))).2.1) == ((at_ M65 h50 (i : Int)).2.1) && (((leastV A36 (at_ S36 (0 : Int) (i : Int))).2.2.1) == ((at_ M65 h50 (i : Int)).2.2.1) && (((leastV A36 (at_ S36 (0 : Int) (i : Int))).2.2.2.1) == ((at_ M65 h50 (i : Int)).2.2.2.1) && (((leastV A36 (at_ S36 (0 : Int) (i : Int))).2.2.2.2) == ((at_ M65 h50 (i : Int)).2.2.2.2) && true))))))) = false then .bool (decide ((at_ S36 (0 : Int) (i : Int)) ≠ 0)) else undef), .eq (if ((((decide ((hiW (countF A36 (at_ S36 (0 : Int) (i : Int)))) ≠ ((at_ C65 c20 (i : Int)).1))) || (decide ((loW (countF A36 (at_ S36 (0 : Int) (i : Int)))) ≠ ((at_ C65 c20 (i : Int)).2)))) || (!((decide ((at_ S36 (0 : Int) (i : Int)) ≠ 0)) == (at_ B65 false (i : Int))))) || (!(((leastV A36 (at_ S36 (0 : Int) (i : Int))).1) == ((at_ M65 h50 (i : Int)).1) && (((leastV A36 (at_ S36 (0 : Int) (i : Int))).2.1) == ((at_ M65 h50 (i : Int)).2.1) && (((leastV A36 (at_ S36 (0 : Int) (i : Int))).2.2.1) == ((at_ M65 h50 (i : Int)).2.2.1) && (((leastV A36 (at_ S36 (0 : Int) (i : Int))).2.2.2.1) == ((at_ M65 h50 (i : Int)).2.2.2.1) && (((leastV A36 (at_ S36 (0 : Int) (i : Int))).2.2.2.2) == ((at_ M65 h50 (i : Int)).2.2.2.2) && true))))))) = false then .agg #[.int .u64 (hiW (countF A36 (at_ S36 (0 : Int) (i : Int)))), .int .u64 (loW (countF A36 (at_ S36 (0 : Int) (i : Int))))] else undef), .eq (if ((((decide ((hiW (countF A36 (at_ S36 (0 : Int) (i : Int)))) ≠ ((at_ C65 c20 (i : Int)).1))) || (decide ((loW (countF A36 (at_ S36 (0 : Int) (i : Int)))) ≠ ((at_ C65 c20 (i : Int)).2)))) || (!((decide ((at_ S36 (0 : Int) (i : Int)) ≠ 0)) == (at_ B65 false (i : Int))))) || (!(((leastV A36 (at_ S36 (0 : Int) (i : Int))).1) == ((at_ M65 h50 (i : Int)).1) && (((leastV A36 (at_ S36 (0 : Int) (i : Int))).2.1) == ((at_ M65 h50 (i : Int)).2.1) && (((leastV A36 (at_ S36 (0 : Int) (i : Int))).2.2.1) == ((at_ M65 h50 (i : Int)).2.2.1) && (((leastV A36 (at_ S36 (0 : Int) (i : Int))).2.2.2.1) == ((at_ M65 h50 (i : Int)).2.2.2.1) && (((leastV A36 (at_ S36 (0 : Int) (i : Int))).2.2.2.2) == ((at_ M65 h50 (i : Int)).2.2.2.2) && true))))))) = false then .bool (wzero (hiW (countF A36 (at_ S36 (0 : Int) (i : Int)))) (loW (countF A36 (at_ S36 (0 : Int) (i : Int))))) else undef), .eq (if ((((decide ((hiW (countF A36 (at_ S36 (0 : Int) (i : Int)))) ≠ ((at_ C65 c20 (i : Int)).1))) || (decide ((loW (countF A36 (at_ S36 (0 : Int) (i : Int)))) ≠ ((at_ C65 c20 (i : Int)).2)))) || (!((decide ((at_ S36 (0 : Int) (i : Int)) ≠ 0)) == (at_ B65 false (i : Int))))) || (!(((leastV A36 (at_ S36 (0 : Int) (i : Int))).1) == ((at_ M65 h50 (i : Int)).1) && (((leastV A36 (at_ S36 (0 : Int) (i : Int))).2.1) == ((at_ M65 h50 (i : Int)).2.1) && (((leastV A36 (at_ S36 (0 : Int) (i : Int))).2.2.1) == ((at_ M65 h50 (i : Int)).2.2.1) && (((leastV A36 (at_ S36 (0 : Int) (i : Int))).2.2.2.1) == ((at_ M65 h50 (i : Int)).2.2.2.1) && (((leastV A36 (at_ S36 (0 : Int) (i : Int))).2.2.2.2) == ((at_ M65 h50 (i : Int)).2.2.2.2) && true))))))) = false then .bool (!(wzero (hiW (countF A36 (at_ S36 (0 : Int) (i : Int)))) (loW (countF A36 (at_ S36 (0 : Int) (i : Int)))))) else undef), .eq (if ((((decide ((hiW (countF A36 (at_ S36 (0 : Int) (i : Int)))) ≠ ((at_ C65 c20 (i : Int)).1))) || (decide ((loW (countF A36 (at_ S36 (0 : Int) (i : Int)))) ≠ ((at_ C65 c20 (i : Int)).2)))) || (!((decide ((at_ S36 (0 : Int) (i : Int)) ≠ 0)) == (at_ B65 false (i : Int))))) || (!(((leastV A36 (at_ S36 (0 : Int) (i : Int))).1) == ((at_ M65 h50 (i : Int)).1) && (((leastV A36 (at_ S36 (0 : Int) (i : Int))).2.1) == ((at_ M65 h50 (i : Int)).2.1) && (((leastV A36 (at_ S36 (0 : Int) (i : Int))).2.2.1) == ((at_ M65 h50 (i : Int)).2.2.1) && (((leastV A36 (at_ S36 (0 : Int) (i : Int))).2.2.2.1) == ((at_ M65 h50 (i : Int)).2.2.2.1) && (((leastV A36 (at_ S36 (0 : Int) (i : Int))).2.2.2.2) == ((at_ M65 h50 (i : Int)).2.2.2.2) && true))))))) = false then .bool (!((decide ((at_ S36 (0 : Int) (i : Int)) ≠ 0)) == (!(wzero (hiW (countF A36 (at_ S36 (0 : Int) (i : Int)))) (loW (countF A36 (at_ S36 (0 : Int) (i : Int)))))))) else undef), .eq (.bool (((((decide ((hiW (countF A36 (at_ S36 (0 : Int) (i : Int)))) ≠ ((at_ C65 c20 (i : Int)).1))) || (decide ((loW (countF A36 (at_ S36 (0 : Int) (i : Int)))) ≠ ((at_ C65 c20 (i : Int)).2)))) || (!((decide ((at_ S36 (0 : Int) (i : Int)) ≠ 0)) == (at_ B65 false (i : Int))))) || (!(((leastV A36 (at_ S36 (0 : Int) (i : Int))).1) == ((at_ M65 h50 (i : Int)).1) && (((leastV A36 (at_ S36 (0 : Int) (i : Int))).2.1) == ((at_ M65 h50 (i : Int)).2.1) && (((leastV A36 (at_ S36 (0 : Int) (i : Int))).2.2.1) == ((at_ M65 h50 (i : Int)).2.2.1) && (((leastV A36 (at_ S36 (0 : Int) (i : Int))).2.2.2.1) == ((at_ M65 h50 (i : Int)).2.2.2.1) && (((leastV A36 (at_ S36 (0 : Int) (i : Int))).2.2.2.2) == ((at_ M65 h50 (i : Int)).2.2.2.2) && true))))))) || (!((decide ((at_ S36 (0 : Int) (i : Int)) ≠ 0)) == (!(wzero (hiW (countF A36 (at_ S36 (0 : Int) (i : Int)))) (loW (countF A36 (at_ S36 (0 : Int) (i : Int))))))))))] [[(12, none)], [(62, some 0)], [(7, none)], [(10, none)], [(64, some 2), (65, some 3)], [(66, some 4)], [(67, some 5)], [(63, some 1), (68, some 6)], [(69, some 7)], [(12, none), (70, some 8)], [(71, some 9), (70, some 8)], [(7, none), (70, some 8)], [(10, none), (70, some 8)], [(73, some 11), (74, some 12), (70, some 8)], [(75, some 13), (70, some 8)], [(76, some 14), (70, some 8)], [(72, some 10), (77, some 15), (70, some 8)], [(70, some 8), (78, some 16)], [(79, some 17)], [(14, none), (80, some 18)], [(9, none), (80, some 18)], [(10, none), (80, some 18)], [(82, some 20), (83, some 21), (80, some 18)], [(84, some 22), (80, some 18)], [(81, some 19), (85, some 23), (80, some 18)], [(80, some 18), (86, some 24)], [(87, some 25)], [(13, none), (88, some 26)], [(8, none), (88, some 26)], [(10, none), (88, some 26)], [(90, some 28), (91, some 29), (88, some 26)], [(92, some 30), (88, some 26)], [(89, some 27), (93, some 31), (88, some 26)], [(88, some 26), (94, some 32)], [(95, some 33)], [(14, none), (96, some 34)], [(12, none), (96, some 34)], [(98, some 36), (96, some 34)], [(99, some 37), (96, some 34)], [(97, some 35), (100, some 38), (96, some 34)], [(96, some 34), (101, some 39)]] d168 z167 (by kernel_rfl) ⟨Ov rfl rfl fun _ _ T ⟨k12, _⟩ => ex_fieldAddr (k12.trans s170_12) (fa_57_0 _ _ _),
     Ov rfl rfl fun _ _ T ⟨k62, _⟩ => ex_load k62 (Try.isAgg55 _) (cell_of (Ext.keep T.ext t140.here_173) rfl),
     Ov rfl rfl fun _ _ T ⟨k7, _⟩ => ex_move (k7.trans s174_7),
     Ov rfl rfl fun _ _ T ⟨k10, _⟩ => ex_move (k10.trans s177_10),
     Ov rfl rfl fun _ _ T ⟨k64, k65, _⟩ => ex_ixa Try.underlying50 (Try.sizeOf61 _) k64 (own_eqA ho1_178 (by omega)) k65 (by omega) (by omega),
     Ov rfl rfl fun _ _ T ⟨k66, _⟩ => ex_fieldAddr k66 (fa_61_0 _ _ _),
     Ov rfl rfl fun _ _ T ⟨k67, _⟩ => ex_load k67 (Try.isAgg55 _) (own_at (own_keep ho1_178 T.ext) (own_eqA ho1_178 (by omega)) c2v_2 (at_some' (d := c20) (hO65.lc.symm) (by omega) (by omega)) 0 rfl),
     Ov rfl rfl fun _ _ T ⟨k63, k68, _⟩ => ex_neq k63 k68,
     Ov rfl rfl fun _ _ T ⟨k69, _⟩ => ex_move k69,
     Og rfl rfl rfl fun _ _ T ⟨k12, k70, _⟩ => ⟨k70, fun hcQ => ex_fieldAddr (k12.trans s170_12) (fa_57_1 _ _ _)⟩,
     Og rfl rfl rfl fun _ _ T ⟨k71, k70, _⟩ => ⟨k70, fun hcQ => ex_load (k71.trans (if_pos hcQ)) (Try.isAgg55 _) (cell_of (Ext.keep T.ext t140.here_173) rfl)⟩,
     Og rfl rfl rfl fun _ _ T ⟨k7, k70, _⟩ => ⟨k70, fun hcQ => ex_move (k7.trans s174_7)⟩,
     Og rfl rfl rfl fun _ _ T ⟨k10, k70, _⟩ => ⟨k70, fun hcQ => ex_move (k10.trans s177_10)⟩,
     Og rfl rfl rfl fun _ _ T ⟨k73, k74, k70, _⟩ => ⟨k70, fun hcQ => by have hdQ := hcQ; (try simp only [Bool.and_eq_true, Bool.or_eq_false_iff, Bool.not_eq_true', Bool.not_eq_false', beq_iff_eq, decide_eq_true_eq, decide_eq_false_iff_not] at hdQ); exact ex_ixa Try.underlying50 (Try.sizeOf61 _) (k73.trans (if_pos hcQ)) (own_eqA ho1_178 (by omega)) (k74.trans (if_pos hcQ)) (by omega) (by omega)⟩,
     Og rfl rfl rfl fun _ _ T ⟨k75, k70, _⟩ => ⟨k70, fun hcQ => ex_fieldAddr (k75.trans (if_pos hcQ)) (fa_61_1 _ _ _)⟩,
     Og rfl rfl rfl fun _ _ T ⟨k76, k70, _⟩ => ⟨k70, fun hcQ => by have hdQ := hcQ; (try simp only [Bool.and_eq_true, Bool.or_eq_false_iff, Bool.not_eq_true', Bool.not_eq_false', beq_iff_eq, decide_eq_true_eq, decide_eq_false_iff_not] at hdQ); exact ex_load (k76.trans (if_pos hcQ)) (Try.isAgg55 _) (own_at (own_keep ho1_178 T.ext) (own_eqA ho1_178 (by omega)) c2v_2 (at_some' (d := c20) (hO65.lc.symm) (by omega) (by omega)) 1 rfl)⟩,
     Og rfl rfl rfl fun _ _ T ⟨k72, k77, k70, _⟩ => ⟨k70, fun hcQ => ex_neq (k72.trans (if_pos hcQ)) (k77.trans (if_pos hcQ))⟩,
     Ov rfl rfl fun _ _ T ⟨k70, k78, _⟩ => ex_pick_or k70 rfl k78,
     Ov rfl rfl fun _ _ T ⟨k79, _⟩ => ex_move k79,
     Og rfl rfl rfl fun _ _ T ⟨k14, k80, _⟩ => ⟨k80, fun hcQ => ex_move (k14.trans s179_14)⟩,
     Og rfl rfl rfl fun _ _ T ⟨k9, k80, _⟩ => ⟨k80, fun hcQ => ex_move (k9.trans s180_9)⟩,
     Og rfl rfl rfl fun _ _ T ⟨k10, k80, _⟩ => ⟨k80, fun hcQ => ex_move (k10.trans s177_10)⟩,
     Og rfl rfl rfl fun _ _ T ⟨k82, k83, k80, _⟩ => ⟨k80, fun hcQ => by have hdQ := hcQ; (try simp only [Bool.and_eq_true, Bool.or_eq_false_iff, Bool.not_eq_true', Bool.not_eq_false', beq_iff_eq, decide_eq_true_eq, decide_eq_false_iff_not] at hdQ); exact ex_ixa Try.underlying52 (Try.sizeOf4 _) (k82.trans (if_pos hcQ)) (own_eqA ho3_181 (by omega)) (k83.trans (if_pos hcQ)) (by omega) (by omega)⟩,
     Og rfl rfl rfl fun _ _ T ⟨k84, k80, _⟩ => ⟨k80, fun hcQ => by have hdQ := hcQ; (try simp only [Bool.and_eq_true, Bool.or_eq_false_iff, Bool.not_eq_true', Bool.not_eq_false', beq_iff_eq, decide_eq_true_eq, decide_eq_false_iff_not] at hdQ); exact ex_load (k84.trans (if_pos hcQ)) (Try.isAgg4 _) (own_at (own_keep ho3_181 T.ext) (own_eqA ho3_181 (by omega)) bov1_1 (at_some' (d := false) (hO65.ls.symm) (by omega) (by omega)) 0 rfl)⟩,
     Og rfl rfl rfl fun _ _ T ⟨k81, k85, k80, _⟩ => ⟨k80, fun hcQ => ex_neqb Try.underlying4 (k81.trans (if_pos hcQ)) (k85.trans (if_pos hcQ))⟩,
     Ov rfl rfl fun _ _ T ⟨k80, k86, _⟩ => ex_pick_or k80 rfl k86,
     Ov rfl rfl fun _ _ T ⟨k87, _⟩ => ex_move k87,
     Og rfl rfl rfl fun _ _ T ⟨k13, k88, _⟩ => ⟨k88, fun hcQ => ex_loadAgg (cs := [.int .u32 ((leastV A36 (at_ S36 (0 : Int) (i : Int))).1), .int .u32 ((leastV A36 (at_ S36 (0 : Int) (i : Int))).2.1), .int .u8 ((leastV A36 (at_ S36 (0 : Int) (i : Int))).2.2.1), .int .u16 ((leastV A36 (at_ S36 (0 : Int) (i : Int))).2.2.2.1), .int .u16 ((leastV A36 (at_ S36 (0 : Int) (i : Int))).2.2.2.2)]) (k13.trans s183_13) (Try.isAgg31 _) (Try.sizeOf31 _) (cells_of (off := 0) (Ext.keep T.ext t166.here) rfl)⟩,
     Og rfl rfl rfl fun _ _ T ⟨k8, k88, _⟩ => ⟨k88, fun hcQ => ex_move (k8.trans s184_8)⟩,
     Og rfl rfl rfl fun _ _ T ⟨k10, k88, _⟩ => ⟨k88, fun hcQ => ex_move (k10.trans s177_10)⟩,
     Og rfl rfl rfl fun _ _ T ⟨k90, k91, k88, _⟩ => ⟨k88, fun hcQ => by have hdQ := hcQ; (try simp only [Bool.and_eq_true, Bool.or_eq_false_iff, Bool.not_eq_true', Bool.not_eq_false', beq_iff_eq, decide_eq_true_eq, decide_eq_false_iff_not] at hdQ); exact ex_ixa Try.underlying51 (Try.sizeOf31 _) (k90.trans (if_pos hcQ)) (own_eqA ho2_185 (by omega)) (k91.trans (if_pos hcQ)) (by omega) (by omega)⟩,
     Og rfl rfl rfl fun _ _ T ⟨k92, k88, _⟩ => ⟨k88, fun hcQ => by have hdQ := hcQ; (try simp only [Bool.and_eq_true, Bool.or_eq_false_iff, Bool.not_eq_true', Bool.not_eq_false', beq_iff_eq, decide_eq_true_eq, decide_eq_false_iff_not] at hdQ); exact ex_loadAgg (cs := [.int .u32 ((at_ M65 h50 (i : Int)).1), .int .u32 ((at_ M65 h50 (i : Int)).2.1), .int .u8 ((at_ M65 h50 (i : Int)).2.2.1), .int .u16 ((at_ M65 h50 (i : Int)).2.2.2.1), .int .u16 ((at_ M65 h50 (i : Int)).2.2.2.2)]) (k92.trans (if_pos hcQ)) (Try.isAgg31 _) (Try.sizeOf31 _) (own_ats (us := [.int .u32 ((at_ M65 h50 (i : Int)).1), .int .u32 ((at_ M65 h50 (i : Int)).2.1), .int .u8 ((at_ M65 h50 (i : Int)).2.2.1), .int .u16 ((at_ M65 h50 (i : Int)).2.2.2.1), .int .u16 ((at_ M65 h50 (i : Int)).2.2.2.2)]) (own_keep ho2_185 T.ext) (own_eqA ho2_185 (by omega)) h5v_5 (at_some' (d := h50) (hO65.lm.symm) (by omega) (by omega)) 0 rfl)⟩,
     Og rfl rfl rfl fun _ _ T ⟨k89, k93, k88, _⟩ => ⟨k88, fun hcQ => ex_binOp (k89.trans (if_pos hcQ)) (k93.trans (if_pos hcQ)) (eqs_neq eg_31 (eq_31 9998 _ ((leastV A36 (at_ S36 (0 : Int) (i : Int))).1) ((at_ M65 h50 (i : Int)).1) ((leastV A36 (at_ S36 (0 : Int) (i : Int))).2.1) ((at_ M65 h50 (i : Int)).2.1) ((leastV A36 (at_ S36 (0 : Int) (i : Int))).2.2.1) ((at_ M65 h50 (i : Int)).2.2.1) ((leastV A36 (at_ S36 (0 : Int) (i : Int))).2.2.2.1) ((at_ M65 h50 (i : Int)).2.2.2.1) ((leastV A36 (at_ S36 (0 : Int) (i : Int))).2.2.2.2) ((at_ M65 h50 (i : Int)).2.2.2.2)))⟩,
     Ov rfl rfl fun _ _ T ⟨k88, k94, _⟩ => ex_pick_or k88 rfl k94,
     Ov rfl rfl fun _ _ T ⟨k95, _⟩ => ex_move k95,
     Og rfl rfl rfl fun _ _ T ⟨k14, k96, _⟩ => ⟨k96, fun hcQ => ex_move (k14.trans s179_14)⟩,
     Og rfl rfl rfl fun _ _ T ⟨k12, k96, _⟩ => ⟨k96, fun hcQ => ex_loadAgg (cs := [.int .u64 (hiW (countF A36 (at_ S36 (0 : Int) (i : Int)))), .int .u64 (loW (countF A36 (at_ S36 (0 : Int) (i : Int))))]) (k12.trans s170_12) (Try.isAgg57 _) (Try.sizeOf57 _) (cells_of (off := 0) (Ext.keep T.ext t140.here_173) rfl)⟩,
     Ogc rfl rfl (fun _ _ T ⟨k98, k96, _⟩ => ⟨k96, fun hcQ => ⟨exl_call Try.func26 rfl rfl (cons_ops (k98.trans (if_pos hcQ)) nil_ops), c_wzero (hiW (countF A36 (at_ S36 (0 : Int) (i : Int)))) (loW (countF A36 (at_ S36 (0 : Int) (i : Int))))  _⟩⟩) rfl,
     Og rfl rfl rfl fun _ _ T ⟨k99, k96, _⟩ => ⟨k96, fun hcQ => ex_not (k99.trans (if_pos hcQ))⟩,
     Og rfl rfl rfl fun _ _ T ⟨k97, k100, k96, _⟩ => ⟨k96, fun hcQ => ex_neqb Try.underlying4 (k97.trans (if_pos hcQ)) (k100.trans (if_pos hcQ))⟩,
     Ov rfl rfl fun _ _ T ⟨k96, k101, _⟩ => ex_pick_or k96 rfl k101,
     trivial⟩ ?_
    intro a186 w186 d186 z186 t186 e186 q186
    have s187_3 := ((q186 3 rfl).trans ((p175 3 rfl).trans s91_3))
    have s188_46 := ((q186 46 rfl).trans ((p172 46 rfl).trans ((p171 46 rfl).trans ((p145 46 rfl).trans ((u124.past 46 rfl).trans ((u123.past 46 rfl).trans ((q122 46 rfl).trans s121_46)))))))
    have s189_47 := ((q186 47 rfl).trans ((p175 47 rfl).trans s91_47))
    have s190_48 := ((q186 48 rfl).trans ((p172 48 rfl).trans ((p171 48 rfl).trans ((p145 48 rfl).trans ((u124.past 48 rfl).trans ((u123.past 48 rfl).trans ((q122 48 rfl).trans s119_48)))))))
    have H36_191 := (ArenaAt.keep (ArenaAt.turn (ArenaAt.keep H36_163 t151) t166 o162) t186)
    have ho36_192 := (own_keep (own_touch (own_keep ho36_153 t151) t166.touch (fun jQ hQ eQ => no152 jQ hQ eQ)) t186)
    have x193 := (Touch.trans (Touch.turn (Touch.trans x165 (Ext.touch t151)) t166 (Or.inr yb151_164)) (Ext.touch t186))
    rcases Bool.eq_false_or_eq_true (((((decide ((hiW (countF A36 (at_ S36 (0 : Int) (i : Int)))) ≠ ((at_ C65 c20 (i : Int)).1))) || (decide ((loW (countF A36 (at_ S36 (0 : Int) (i : Int)))) ≠ ((at_ C65 c20 (i : Int)).2)))) || (!((decide ((at_ S36 (0 : Int) (i : Int)) ≠ 0)) == (at_ B65 false (i : Int))))) || (!(((leastV A36 (at_ S36 (0 : Int) (i : Int))).1) == ((at_ M65 h50 (i : Int)).1) && (((leastV A36 (at_ S36 (0 : Int) (i : Int))).2.1) == ((at_ M65 h50 (i : Int)).2.1) && (((leastV A36 (at_ S36 (0 : Int) (i : Int))).2.2.1) == ((at_ M65 h50 (i : Int)).2.2.1) && (((leastV A36 (at_ S36 (0 : Int) (i : Int))).2.2.2.1) == ((at_ M65 h50 (i : Int)).2.2.2.1) && (((leastV A36 (at_ S36 (0 : Int) (i : Int))).2.2.2.2) == ((at_ M65 h50 (i : Int)).2.2.2.2) && true))))))) || (!((decide ((at_ S36 (0 : Int) (i : Int)) ≠ 0)) == (!(wzero (hiW (countF A36 (at_ S36 (0 : Int) (i : Int)))) (loW (countF A36 (at_ S36 (0 : Int) (i : Int))))))))) with y194 | y194
    ·have c194 := y194; try simp only [Bool.and_eq_true, Bool.or_eq_true, Bool.and_eq_false_iff, Bool.or_eq_false_iff, Bool.not_eq_true', Bool.not_eq_false', decide_eq_true_eq, decide_eq_false_iff_not] at c194
     have s195_102 : a186.eval (.tmp 102) = .bool (((((decide ((hiW (countF A36 (at_ S36 (0 : Int) (i : Int)))) ≠ ((at_ C65 c20 (i : Int)).1))) || (decide ((loW (countF A36 (at_ S36 (0 : Int) (i : Int)))) ≠ ((at_ C65 c20 (i : Int)).2)))) || (!((decide ((at_ S36 (0 : Int) (i : Int)) ≠ 0)) == (at_ B65 false (i : Int))))) || (!(((leastV A36 (at_ S36 (0 : Int) (i : Int))).1) == ((at_ M65 h50 (i : Int)).1) && (((leastV A36 (at_ S36 (0 : Int) (i : Int))).2.1) == ((at_ M65 h50 (i : Int)).2.1) && (((leastV A36 (at_ S36 (0 : Int) (i : Int))).2.2.1) == ((at_ M65 h50 (i : Int)).2.2.1) && (((leastV A36 (at_ S36 (0 : Int) (i : Int))).2.2.2.1) == ((at_ M65 h50 (i : Int)).2.2.2.1) && (((leastV A36 (at_ S36 (0 : Int) (i : Int))).2.2.2.2) == ((at_ M65 h50 (i : Int)).2.2.2.2) && true))))))) || (!((decide ((at_ S36 (0 : Int) (i : Int)) ≠ 0)) == (!(wzero (hiW (countF A36 (at_ S36 (0 : Int) (i : Int)))) (loW (countF A36 (at_ S36 (0 : Int) (i : Int))))))))) := e186.2.2.2.2.2.2.2.2.2.2.2.2.2.2.2.2.2.2.2.2.2.2.2.2.2.2.2.2.2.2.2.2.2.2.2.2.2.2.2.2.1
     refine wp_cond_true (s195_102.trans (by rw [y194])) ?_
     refine rgs mixed 105 [.eq (.bool false)] [[]] d186 z186 (by kernel_rfl) ⟨Ov rfl rfl fun _ _ T _ => ex_assign rfl, trivial⟩ ?_
     intro a196 w196 d196 z196 t196 e196 q196
     refine wp_ret ?_
     have s197_2 : a196.eval (.tmp 2) = .bool false := e196.1
     repeat (first | (with_reducible refine then_ret ?_) | (with_reducible refine block_ret ?_))
     refine retl (rs := [.tmp 2]) Try.results4 ⟨s197_2, trivial⟩ d196 ?_
     have x198 := (Touch.trans x193 (Ext.touch t196))
     exfalso; have hcond := y194
     rw [e4, d1, d2, d3, ← e1, ← e2, ← e3] at hcond
     simp at hcond
    ·have c194 := y194; try simp only [Bool.and_eq_true, Bool.or_eq_true, Bool.and_eq_false_iff, Bool.or_eq_false_iff, Bool.not_eq_true', Bool.not_eq_false', decide_eq_true_eq, decide_eq_false_iff_not] at c194
     have s199_102 : a186.eval (.tmp 102) = .bool (((((decide ((hiW (countF A36 (at_ S36 (0 : Int) (i : Int)))) ≠ ((at_ C65 c20 (i : Int)).1))) || (decide ((loW (countF A36 (at_ S36 (0 : Int) (i : Int)))) ≠ ((at_ C65 c20 (i : Int)).2)))) || (!((decide ((at_ S36 (0 : Int) (i : Int)) ≠ 0)) == (at_ B65 false (i : Int))))) || (!(((leastV A36 (at_ S36 (0 : Int) (i : Int))).1) == ((at_ M65 h50 (i : Int)).1) && (((leastV A36 (at_ S36 (0 : Int) (i : Int))).2.1) == ((at_ M65 h50 (i : Int)).2.1) && (((leastV A36 (at_ S36 (0 : Int) (i : Int))).2.2.1) == ((at_ M65 h50 (i : Int)).2.2.1) && (((leastV A36 (at_ S36 (0 : Int) (i : Int))).2.2.2.1) == ((at_ M65 h50 (i : Int)).2.2.2.1) && (((leastV A36 (at_ S36 (0 : Int) (i : Int))).2.2.2.2) == ((at_ M65 h50 (i : Int)).2.2.2.2) && true))))))) || (!((decide ((at_ S36 (0 : Int) (i : Int)) ≠ 0)) == (!(wzero (hiW (countF A36 (at_ S36 (0 : Int) (i : Int)))) (loW (countF A36 (at_ S36 (0 : Int) (i : Int))))))))) := e186.2.2.2.2.2.2.2.2.2.2.2.2.2.2.2.2.2.2.2.2.2.2.2.2.2.2.2.2.2.2.2.2.2.2.2.2.2.2.2.2.1
     refine wp_cond_false (s199_102.trans (by rw [y194])) ?_
     refine wp_skip ?_
     repeat (with_reducible refine block_norm ?_)
     refine hK118 _ _ ?_
     refine rg mixed 105 [.eq (.int .i64 ((i : Int) + 1)), .eq (.int .i64 ((i : Int) + 1))] [[(48, none)], [(103, some 0)]] d186 z186 (by kernel_rfl) ⟨Ov rfl rfl fun _ _ T ⟨k48, _⟩ => ex_add64 (k48.trans s190_48) rfl (by omega), Ov rfl rfl fun _ _ T ⟨k103, _⟩ => ex_move k103, trivial⟩ ?_
     intro a200 w200 d200 z200 t200 e200 q200
     repeat (with_reducible refine block_norm ?_)
     have s201_3 := ((q200 3 rfl).trans s187_3)
     have s202_7 := ((q200 7 rfl).trans ((q186 7 rfl).trans s174_7))
     have s203_8 := ((q200 8 rfl).trans ((q186 8 rfl).trans s184_8))
     have s204_9 := ((q200 9 rfl).trans ((q186 9 rfl).trans s180_9))
     have s205_46 := ((q200 46 rfl).trans s188_46)
     have s206_47 := ((q200 47 rfl).trans s189_47)
     have s207_48 : a200.eval (.tmp 48) = .int .i64 ((i : Int) + 1) := e200.2.1
     have x208 := (Touch.trans x193 (Ext.touch t200))
     have H36_209 := (ArenaAt.keep H36_191 t200)
     have ho36_210 := (own_keep ho36_192 t200)
     have ho1_211 := (own_keep (own_keep ho1_178 t186) t200)
     have ho2_212 := (own_keep (own_keep ho2_185 t186) t200)
     have ho3_213 := (own_keep (own_keep ho3_181 t186) t200)
     refine then_norm ?_
     refine ⟨_, ⟨i + 1, rfl, d200, z200, s201_3, s202_7, s203_8, s204_9, s205_46, s206_47, (s207_48.trans (by first | rfl | (congr 1; omega) | (simp; omega) | simp)), x208, H36_209, ho36_210, ho1_211, ho2_212, ho3_213, by omega⟩, ?_⟩; (show _ < _); rw [hmu91]; exact by omega
   ·have y116 := decide_eq_false c116
    have s214_49 : a114.eval (.tmp 49) = .bool (decide ((i : Int) < (L.length : Int))) := e114.1
    refine wp_cond_false (s214_49.trans (by rw [y116])) ?_
    refine wp_exit ?_
    repeat (first | (with_reducible refine then_exit ?_) | (with_reducible refine block_here ?_) | (with_reducible refine block_past rfl ?_))
    refine hK86 _ _ ?_
    refine wp_seq ?_
    refine seq_begin ?_
    refine scx z114 rfl rfl (exl_call Try.func21 rfl rfl nil_ops) (c_awake08) ?_; intro w215 a215 t215 u215 z215
    refine sp z215 rfl rfl (ex_assign (u215.here _ rfl)) ?_; intro a216 u216 z216
    have d217 := (u216.defs.trans (u215.defs.trans d114))
    refine seq_end ?_
    refine then_norm ?_
    refine wp_ret ?_
    have s218_2 : a216.eval (.tmp 2) = .bool true := (u216.here _ rfl)
    repeat (first | (with_reducible refine then_ret ?_) | (with_reducible refine block_ret ?_))
    refine retl (rs := [.tmp 2]) Try.results4 ⟨s218_2, trivial⟩ d217 ?_
    have x219 := (Touch.trans (Touch.trans x91 (Ext.touch t114)) (Ext.touch t215))
    exact ⟨rfl, (x219).ext⟩

end Go.Proofs.Yticodddigaiipaa
