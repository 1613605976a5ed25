/-
  Contracts of functions of the given program, each proved by a walk through its code: what a call answers, and what it leaves of memory; conditions: those ahead of each theorem's colon.
-/
import Derived.Test.YticodddigaiipaaE2
import Derived.Test.YticodddigaiipaaL7
set_option linter.unusedVariables false
set_option linter.unusedSimpArgs false
namespace Go.Proofs.Yticodddigaiipaa
open Go.RowKit


theorem rcheck_ok {fda fdb fsa fsb fp fsl fsh fdl fdh : Int} (h : rcheck fda fdb fsa fsb fp fsl fsh fdl fdh = 0) : (0 ≤ fdb ∧ fdb ≤ 32) ∧ (0 ≤ fsb ∧ fsb ≤ 32) := by
  unfold rcheck at h
  split at h
  · omega
  · rename_i h1
    simp only [Bool.or_eq_true, Bool.not_eq_true', not_or, Bool.not_eq_false] at h1
    exact ⟨rright_of h1.1, rright_of h1.2⟩

set_option maxRecDepth 100000 in
set_option maxHeartbeats 4000000 in
theorem c_EncFull {w : World} (fda fdb fsa fsb fp fsl fsh fdl fdh : Int) (room : Int) (hd hs hp hsp hdp : Int) (h1 : 0 ≤ fda ∧ fda ≤ 4294967295) (h2 : 0 ≤ fsa ∧ fsa ≤ 4294967295) (hpr : 0 ≤ fsl ∧ fsh ≤ 65535 ∧ 0 ≤ fdl ∧ fdh ≤ 65535) (hroom : 0 ≤ room ∧ room ≤ 255) (hh : HdrOk hd hs hp hsp hdp) : Calls Try.prog 3 #[.agg #[.int .u32 fda, .int .i64 fdb, .int .u32 fsa, .int .i64 fsb, .int .i64 fp, .int .u16 fsl, .int .u16 fsh, .int .u16 fdl, .int .u16 fdh], .int .u8 room, .agg #[.int .u32 hd, .int .u32 hs, .int .u8 hp, .int .u16 hsp, .int .u16 hdp]] w fun e w' => e = .returned (.bool true) ∧ Ext w w' := by
  have hd1 := hh.d; have hs1 := hh.s; have hp1 := hh.p
  refine enter 82 Try.ntmps3 Try.func3 rfl (Nat.le_of_ble_eq_true rfl) fun a0 d0 z0 hargs => ?_
  have s0_0 : a0.eval (.tmp 0) = .agg #[.int .u32 fda, .int .i64 fdb, .int .u32 fsa, .int .i64 fsb, .int .i64 fp, .int .u16 fsl, .int .u16 fsh, .int .u16 fdl, .int .u16 fdh] := hargs 0 _ rfl
  have s0_1 : a0.eval (.tmp 1) = .int .u8 room := hargs 1 _ rfl
  have s0_2 : a0.eval (.tmp 2) = .agg #[.int .u32 hd, .int .u32 hs, .int .u8 hp, .int .u16 hsp, .int .u16 hdp] := hargs 2 _ rfl
  have x0 := Touch.refl NoF w
  refine wp_seq ?_
  refine seq_begin ?_
  refine sbox z0 rfl s0_0 ?_; intro b1 w1 a1 t1 g1 hb1 u1 z1
  have yb1_2 := Nat.le_trans (Touch.size x0) g1
  refine sbox z1 rfl ((u1.past 2 rfl).trans s0_2) ?_; intro b3 w3 a3 t3 g3 hb3 u3 z3
  have n4_b1_b3 := ne_lt (lt_of hb1) g3
  have x6 := (Touch.trans x0 (Ext.touch t1))
  have yb3_5 := Nat.le_trans (Touch.size x6) g3
  refine sp z3 rfl rfl (ex_assign rfl) ?_; intro a7 u7 z7
  have d8 := (u7.defs.trans (u3.defs.trans (u1.defs.trans d0)))
  refine seq_end ?_
  refine then_norm ?_
  refine wp_seq_k fun K9 hK9 => ?_
  refine wp_seq ?_
  refine seq_begin ?_
  have hb1_11 := (Ext.keep t3 hb1)
  refine sp z7 rfl rfl (ex_loadAgg (cs := [.int .u32 fda, .int .i64 fdb, .int .u32 fsa, .int .i64 fsb, .int .i64 fp, .int .u16 fsl, .int .u16 fsh, .int .u16 fdl, .int .u16 fdh]) ((u7.past 3 rfl).trans ((u3.past 3 rfl).trans (u1.here _ rfl))) (Try.isAgg29 _) (Try.sizeOf29 _) (cells_of (off := 0) hb1_11 rfl)) ?_; intro a10 u10 z10
  refine scx z10 rfl rfl (exl_call Try.func12 rfl rfl (cons_ops (u10.here _ rfl) nil_ops)) (c_rcheck fda fdb fsa fsb fp fsl fsh fdl fdh (by omega) (by omega) _) ?_; intro w12 a12 t12 u12 z12
  refine sp z12 rfl rfl (ex_neq (u12.here _ rfl) rfl) ?_; intro a13 u13 z13
  refine sp z13 rfl rfl (ex_move (u13.here _ rfl)) ?_; intro a14 u14 z14
  refine sg z14 rfl rfl rfl (u14.here _ rfl) (fun hcQ => ex_move ((u14.past 1 rfl).trans ((u13.past 1 rfl).trans ((u12.past 1 rfl).trans ((u10.past 1 rfl).trans ((u7.past 1 rfl).trans ((u3.past 1 rfl).trans ((u1.past 1 rfl).trans s0_1)))))))) ?_; intro a15 u15 z15
  refine sg z15 rfl rfl rfl ((u15.past 18 rfl).trans (u14.here _ rfl)) (fun hcQ => ex_lss ((u15.here _ rfl).trans (if_pos hcQ)) rfl) ?_; intro a16 u16 z16
  refine sp z16 rfl rfl (ex_pick_or ((u16.past 18 rfl).trans ((u15.past 18 rfl).trans (u14.here _ rfl))) rfl (u16.here _ rfl)) ?_; intro a17 u17 z17
  have d18 := (u17.defs.trans (u16.defs.trans (u15.defs.trans (u14.defs.trans (u13.defs.trans (u12.defs.trans (u10.defs.trans d8)))))))
  refine seq_end ?_
  refine then_norm ?_
  rcases Bool.eq_false_or_eq_true ((decide ((rcheck fda fdb fsa fsb fp fsl fsh fdl fdh) ≠ 0)) || (decide (room < 2))) with y19 | y19
  · have c19 := y19; try simp only [Bool.and_eq_true, Bool.or_eq_true, Bool.and_eq_false_iff, Bool.or_eq_false_iff, Bool.not_eq_true', Bool.not_eq_false', decide_eq_true_eq, decide_eq_false_iff_not] at c19
    have s20_21 : a17.eval (.tmp 21) = .bool ((decide ((rcheck fda fdb fsa fsb fp fsl fsh fdl fdh) ≠ 0)) || (decide (room < 2))) := (u17.here _ rfl)
    refine wp_cond_true (s20_21.trans (by rw [y19])) ?_
    refine wp_seq ?_
    refine seq_begin ?_
    refine scx z17 rfl rfl (exl_call Try.func13 rfl rfl nil_ops) (c_awake07) ?_; intro w21 a21 t21 u21 z21
    refine sp z21 rfl rfl (ex_assign (u21.here _ rfl)) ?_; intro a22 u22 z22
    have d23 := (u22.defs.trans (u21.defs.trans d18))
    refine seq_end ?_
    refine then_norm ?_
    refine wp_ret ?_
    have s24_6 : a22.eval (.tmp 6) = .bool true := (u22.here _ rfl)
    repeat (first | (with_reducible refine then_ret ?_) | (with_reducible refine block_ret ?_))
    refine retl (rs := [.tmp 6]) Try.results3 ⟨s24_6, trivial⟩ d23 ?_
    have x25 := (Touch.trans (Touch.trans (Touch.trans x6 (Ext.touch t3)) (Ext.touch t12)) (Ext.touch t21))
    exact ⟨rfl, (x25).ext⟩
  · have c19 := y19; try simp only [Bool.and_eq_true, Bool.or_eq_true, Bool.and_eq_false_iff, Bool.or_eq_false_iff, Bool.not_eq_true', Bool.not_eq_false', decide_eq_true_eq, decide_eq_false_iff_not] at c19
    have s26_21 : a17.eval (.tmp 21) = .bool ((decide ((rcheck fda fdb fsa fsb fp fsl fsh fdl fdh) ≠ 0)) || (decide (room < 2))) := (u17.here _ rfl)
    refine wp_cond_false (s26_21.trans (by rw [y19])) ?_
    refine wp_skip ?_
    repeat (with_reducible refine block_norm ?_)
    refine hK9 _ _ ?_
    have rk : rcheck fda fdb fsa fsb fp fsl fsh fdl fdh = 0 := by omega
    have rko := rcheck_ok rk
    have hck : fcheck fda fdb fsa fsb fp fsl fsh fdl fdh = 0 := by rw [check_iff h1 h2]; exact rk
    refine wp_seq ?_
    refine seq_begin ?_
    refine sp z17 rfl rfl (ex_move ((u17.past 1 rfl).trans ((u16.past 1 rfl).trans ((u15.past 1 rfl).trans ((u14.past 1 rfl).trans ((u13.past 1 rfl).trans ((u12.past 1 rfl).trans ((u10.past 1 rfl).trans ((u7.past 1 rfl).trans ((u3.past 1 rfl).trans ((u1.past 1 rfl).trans s0_1))))))))))) ?_; intro a27 u27 z27
    refine sp z27 rfl rfl (ex_convert (u27.here _ rfl) (cvn_5_3 (by omega))) ?_; intro a28 u28 z28
    refine sc z28 rfl rfl (exl_call Try.func14 rfl rfl (cons_ops (u28.here _ rfl) nil_ops)) (c_New room (by omega) (by omega)) ?_
    rintro e29 w29 ⟨b29, Fp29, he29, H29, t29, nw29⟩; refine ⟨_, he29, ?_⟩; intro a29 u29 z29
    have hb1_31 := (Ext.keep t12 hb1_11)
    have o30 : ¬ Fp29 b1 := fun hQ => by have := nw29 _ hQ; have := lt_of hb1_31; omega
    have hb3_33 := (Ext.keep t12 hb3)
    have o32 : ¬ Fp29 b3 := fun hQ => by have := nw29 _ hQ; have := lt_of hb3_33; omega
    have x35 := (Touch.trans (Touch.trans x6 (Ext.touch t3)) (Ext.touch t12))
    have i34 : ∀ jQ, Fp29 jQ → (NoF) jQ ∨ w.heap.size ≤ jQ := fun jQ hQ => Or.inr (Nat.le_trans (Touch.size x35) (nw29 jQ hQ))
    refine sp z29 rfl rfl (ex_move (u29.here _ rfl)) ?_; intro a36 u36 z36
    refine sp z36 rfl rfl (ex_extract (u36.here _ rfl) rfl) ?_; intro a37 u37 z37
    refine sp z37 rfl rfl (ex_extract ((u37.past 23 rfl).trans (u36.here _ rfl)) rfl) ?_; intro a38 u38 z38
    refine sp z38 rfl rfl (ex_assign ((u38.past 27 rfl).trans (u37.here _ rfl))) ?_; intro a39 u39 z39
    refine sp z39 rfl rfl (ex_assign ((u39.past 28 rfl).trans (u38.here _ rfl))) ?_; intro a40 u40 z40
    have d41 := (u40.defs.trans (u39.defs.trans (u38.defs.trans (u37.defs.trans (u36.defs.trans (u29.defs.trans (u28.defs.trans (u27.defs.trans d18))))))))
    refine seq_end ?_
    refine then_norm ?_
    refine wp_seq_k fun K42 hK42 => ?_
    have s43_7 : a39.eval (.tmp 7) = .pointer (some ⟨b29, 0, none⟩) := (u39.here _ rfl)
    have s44_7 := ((u40.past 7 rfl).trans s43_7)
    refine rgs mixed 82 [.eq (.pointer (some ⟨b29, 0, none⟩)), .eq (.bool false)] [[(7, none)], [(29, some 0)]] d41 z40 (by kernel_rfl) ⟨Ov rfl rfl fun _ _ T ⟨k7, _⟩ => ex_move (k7.trans s44_7), Ov rfl rfl fun _ _ T ⟨k29, _⟩ => ex_ptr_eql_nil k29 rfl (by kernel_rfl), trivial⟩ ?_
    intro a45 w45 d45 z45 t45 e45 q45
    have s46_30 : a45.eval (.tmp 30) = .bool false := e45.2.1
    refine wp_cond_false s46_30 ?_
    refine wp_skip ?_
    repeat (with_reducible refine block_norm ?_)
    refine hK42 _ _ ?_
    refine wp_seq ?_
    refine seq_begin ?_
    refine sp z45 rfl rfl (ex_move ((q45 7 rfl).trans s44_7)) ?_; intro a47 u47 z47
    have hb1_49 := (Ext.keep t45 (Ext.keep t29 hb1_31))
    refine sp z47 rfl rfl (ex_loadAgg (cs := [.int .u32 fda, .int .i64 fdb, .int .u32 fsa, .int .i64 fsb, .int .i64 fp, .int .u16 fsl, .int .u16 fsh, .int .u16 fdl, .int .u16 fdh]) ((u47.past 3 rfl).trans ((q45 3 rfl).trans ((u40.past 3 rfl).trans ((u39.past 3 rfl).trans ((u38.past 3 rfl).trans ((u37.past 3 rfl).trans ((u36.past 3 rfl).trans ((u29.past 3 rfl).trans ((u28.past 3 rfl).trans ((u27.past 3 rfl).trans ((u17.past 3 rfl).trans ((u16.past 3 rfl).trans ((u15.past 3 rfl).trans ((u14.past 3 rfl).trans ((u13.past 3 rfl).trans ((u12.past 3 rfl).trans ((u10.past 3 rfl).trans ((u7.past 3 rfl).trans ((u3.past 3 rfl).trans (u1.here _ rfl)))))))))))))))))))) (Try.isAgg29 _) (Try.sizeOf29 _) (cells_of (off := 0) hb1_49 rfl)) ?_; intro a48 u48 z48
    have H29_51 := (ArenaAt.keep H29 t45)
    refine sc z48 rfl rfl (exl_call Try.func15 rfl rfl (cons_ops ((u48.past 32 rfl).trans (u47.here _ rfl)) (cons_ops (u48.here _ rfl) nil_ops))) (c_Filter H29_51 wf_new (by simp; omega) (by omega) fda fdb fsa fsb fp fsl fsh fdl fdh hck (by omega) (by omega) hpr) ?_
    rintro e50 w50 ⟨Fp50, A50, r50, c50, he50, H50, m50, R50, back50⟩; refine ⟨_, he50, ?_⟩; intro a50 u50 z50
    have o52 := Mut.out m50 (lt_of hb1_49) o30
    have hb3_53 := (Ext.keep t45 (Ext.keep t29 hb3_33))
    have o54 := Mut.out m50 (lt_of hb3_53) o32
    have x55 := (Touch.trans (Touch.trans x35 (Ext.touch t29)) (Ext.touch t45))
    have i56 := Mut.inF m50 x55 i34
    refine sp z50 rfl rfl (ex_move (u50.here _ rfl)) ?_; intro a57 u57 z57
    refine sp z57 rfl rfl (ex_extract (u57.here _ rfl) rfl) ?_; intro a58 u58 z58
    refine sp z58 rfl rfl (ex_extract ((u58.past 31 rfl).trans (u57.here _ rfl)) rfl) ?_; intro a59 u59 z59
    refine sp z59 rfl rfl (ex_assign ((u59.past 35 rfl).trans (u58.here _ rfl))) ?_; intro a60 u60 z60
    refine sp z60 rfl rfl (ex_assign ((u60.past 36 rfl).trans (u59.here _ rfl))) ?_; intro a61 u61 z61
    have d62 := (u61.defs.trans (u60.defs.trans (u59.defs.trans (u58.defs.trans (u57.defs.trans (u50.defs.trans (u48.defs.trans (u47.defs.trans d45))))))))
    refine seq_end ?_
    refine then_norm ?_
    refine wp_seq_k fun K63 hK63 => ?_
    have s64_10 : a61.eval (.tmp 10) = .int .i64 c50 := (u61.here _ rfl)
    refine rgs mixed 82 [.eq (.int .i64 c50), .eq (.bool (decide (c50 = 20)))] [[(10, none)], [(37, some 0)]] d62 z61 (by kernel_rfl) ⟨Ov rfl rfl fun _ _ T ⟨k10, _⟩ => ex_move (k10.trans s64_10), Ov rfl rfl fun _ _ T ⟨k37, _⟩ => ex_eql k37 rfl, trivial⟩ ?_
    intro a65 w65 d65 z65 t65 e65 q65
    by_cases c66 : c50 = 20
    · have y66 := decide_eq_true c66
      have s67_38 : a65.eval (.tmp 38) = .bool (decide (c50 = 20)) := e65.2.1
      refine wp_cond_true (s67_38.trans (by rw [y66])) ?_
      refine wp_seq ?_
      refine seq_begin ?_
      refine scx z65 rfl rfl (exl_call Try.func13 rfl rfl nil_ops) (c_awake07) ?_; intro w68 a68 t68 u68 z68
      refine sp z68 rfl rfl (ex_move (u68.here _ rfl)) ?_; intro a69 u69 z69
      refine sy z69 rfl rfl rfl (u69.here _ rfl) (ex_move ((u69.past 7 rfl).trans ((u68.past 7 rfl).trans ((q65 7 rfl).trans ((u61.past 7 rfl).trans ((u60.past 7 rfl).trans ((u59.past 7 rfl).trans ((u58.past 7 rfl).trans ((u57.past 7 rfl).trans ((u50.past 7 rfl).trans ((u48.past 7 rfl).trans ((u47.past 7 rfl).trans ((q45 7 rfl).trans s44_7))))))))))))) ?_; intro a70 u70 z70
      have H50_72 := (ArenaAt.keep (ArenaAt.keep H50 t65) t68)
      refine scyx z70 rfl rfl rfl ((u70.past 40 rfl).trans (u69.here _ rfl)) (exl_call Try.func16 rfl rfl (cons_ops (u70.here _ rfl) nil_ops)) (a_len H50_72) ?_; intro w71 a71 t71 u71 z71
      refine sy z71 rfl rfl rfl ((u71.past 40 rfl).trans ((u70.past 40 rfl).trans (u69.here _ rfl))) (ex_eql (u71.here _ rfl) rfl) ?_; intro a73 u73 z73
      refine sp z73 rfl rfl (ex_pick_t ((u73.past 40 rfl).trans ((u71.past 40 rfl).trans ((u70.past 40 rfl).trans (u69.here _ rfl)))) (u73.here _ rfl)) ?_; intro a74 u74 z74
      refine sp z74 rfl rfl (ex_move (u74.here _ rfl)) ?_; intro a75 u75 z75
      refine sg z75 rfl rfl rfl (u75.here _ rfl) (fun hcQ => ex_move ((u75.past 9 rfl).trans ((u74.past 9 rfl).trans ((u73.past 9 rfl).trans ((u71.past 9 rfl).trans ((u70.past 9 rfl).trans ((u69.past 9 rfl).trans ((u68.past 9 rfl).trans ((q65 9 rfl).trans ((u61.past 9 rfl).trans (u60.here _ rfl))))))))))) ?_; intro a76 u76 z76
      refine sg z76 rfl rfl rfl ((u76.past 45 rfl).trans (u75.here _ rfl)) (fun hcQ => ex_eql ((u76.here _ rfl).trans (if_pos hcQ)) rfl) ?_; intro a77 u77 z77
      refine sp z77 rfl rfl (ex_pick_and ((u77.past 45 rfl).trans ((u76.past 45 rfl).trans (u75.here _ rfl))) (u77.here _ rfl) rfl) ?_; intro a78 u78 z78
      refine sp z78 rfl rfl (ex_assign (u78.here _ rfl)) ?_; intro a79 u79 z79
      have d80 := (u79.defs.trans (u78.defs.trans (u77.defs.trans (u76.defs.trans (u75.defs.trans (u74.defs.trans (u73.defs.trans (u71.defs.trans (u70.defs.trans (u69.defs.trans (u68.defs.trans d65)))))))))))
      refine seq_end ?_
      refine then_norm ?_
      refine wp_ret ?_
      have s81_6 : a79.eval (.tmp 6) = .bool ((decide ((A50.length : Int) = 2)) && (decide (r50 = 0))) := (u79.here _ rfl)
      repeat (first | (with_reducible refine then_ret ?_) | (with_reducible refine block_ret ?_))
      refine retl (rs := [.tmp 6]) Try.results3 ⟨s81_6, trivial⟩ d80 ?_
      have x82 := (Touch.trans (Touch.trans (Touch.trans (Touch.mut x55 m50 i34) (Ext.touch t65)) (Ext.touch t68)) (Ext.touch t71))
      have hb := back50 (by omega)
      obtain ⟨hA, hr⟩ := hb
      exact ⟨by simp [hA, hr], (x82).ext⟩
    · have y66 := decide_eq_false c66
      have s83_38 : a65.eval (.tmp 38) = .bool (decide (c50 = 20)) := e65.2.1
      refine wp_cond_false (s83_38.trans (by rw [y66])) ?_
      refine wp_skip ?_
      repeat (with_reducible refine block_norm ?_)
      refine hK63 _ _ ?_
      refine wp_seq ?_
      refine seq_begin ?_
      have hb1_85 := (Ext.keep t65 (Mut.keep m50 hb1_49 o30))
      refine sp z65 rfl rfl (ex_loadAgg (cs := [.int .u32 fda, .int .i64 fdb, .int .u32 fsa, .int .i64 fsb, .int .i64 fp, .int .u16 fsl, .int .u16 fsh, .int .u16 fdl, .int .u16 fdh]) ((q65 3 rfl).trans ((u61.past 3 rfl).trans ((u60.past 3 rfl).trans ((u59.past 3 rfl).trans ((u58.past 3 rfl).trans ((u57.past 3 rfl).trans ((u50.past 3 rfl).trans ((u48.past 3 rfl).trans ((u47.past 3 rfl).trans ((q45 3 rfl).trans ((u40.past 3 rfl).trans ((u39.past 3 rfl).trans ((u38.past 3 rfl).trans ((u37.past 3 rfl).trans ((u36.past 3 rfl).trans ((u29.past 3 rfl).trans ((u28.past 3 rfl).trans ((u27.past 3 rfl).trans ((u17.past 3 rfl).trans ((u16.past 3 rfl).trans ((u15.past 3 rfl).trans ((u14.past 3 rfl).trans ((u13.past 3 rfl).trans ((u12.past 3 rfl).trans ((u10.past 3 rfl).trans ((u7.past 3 rfl).trans ((u3.past 3 rfl).trans (u1.here _ rfl)))))))))))))))))))))))))))) (Try.isAgg29 _) (Try.sizeOf29 _) (cells_of (off := 0) hb1_85 rfl)) ?_; intro a84 u84 z84
      refine scx z84 rfl rfl (exl_call Try.func15 rfl rfl (cons_ops rfl (cons_ops (u84.here _ rfl) nil_ops))) (c_Filter_nil fda fdb fsa fsb fp fsl fsh fdl fdh) ?_; intro w86 a86 t86 u86 z86
      refine sp z86 rfl rfl (ex_move (u86.here _ rfl)) ?_; intro a87 u87 z87
      refine sp z87 rfl rfl (ex_extract (u87.here _ rfl) rfl) ?_; intro a88 u88 z88
      refine sp z88 rfl rfl (ex_extract ((u88.past 49 rfl).trans (u87.here _ rfl)) rfl) ?_; intro a89 u89 z89
      refine sp z89 rfl rfl (ex_assign ((u89.past 52 rfl).trans (u88.here _ rfl))) ?_; intro a90 u90 z90
      refine sp z90 rfl rfl (ex_assign ((u90.past 53 rfl).trans (u89.here _ rfl))) ?_; intro a91 u91 z91
      have d92 := (u91.defs.trans (u90.defs.trans (u89.defs.trans (u88.defs.trans (u87.defs.trans (u86.defs.trans (u84.defs.trans d65)))))))
      refine seq_end ?_
      refine then_norm ?_
      refine wp_seq ?_
      refine seq_begin ?_
      have hb3_94 := (Ext.keep t86 (Ext.keep t65 (Mut.keep m50 hb3_53 o32)))
      refine sp z91 rfl rfl (ex_loadAgg (cs := [.int .u32 hd, .int .u32 hs, .int .u8 hp, .int .u16 hsp, .int .u16 hdp]) ((u91.past 5 rfl).trans ((u90.past 5 rfl).trans ((u89.past 5 rfl).trans ((u88.past 5 rfl).trans ((u87.past 5 rfl).trans ((u86.past 5 rfl).trans ((u84.past 5 rfl).trans ((q65 5 rfl).trans ((u61.past 5 rfl).trans ((u60.past 5 rfl).trans ((u59.past 5 rfl).trans ((u58.past 5 rfl).trans ((u57.past 5 rfl).trans ((u50.past 5 rfl).trans ((u48.past 5 rfl).trans ((u47.past 5 rfl).trans ((q45 5 rfl).trans ((u40.past 5 rfl).trans ((u39.past 5 rfl).trans ((u38.past 5 rfl).trans ((u37.past 5 rfl).trans ((u36.past 5 rfl).trans ((u29.past 5 rfl).trans ((u28.past 5 rfl).trans ((u27.past 5 rfl).trans ((u17.past 5 rfl).trans ((u16.past 5 rfl).trans ((u15.past 5 rfl).trans ((u14.past 5 rfl).trans ((u13.past 5 rfl).trans ((u12.past 5 rfl).trans ((u10.past 5 rfl).trans ((u7.past 5 rfl).trans (u3.here _ rfl)))))))))))))))))))))))))))))))))) (Try.isAgg31 _) (Try.sizeOf31 _) (cells_of (off := 0) hb3_94 rfl)) ?_; intro a93 u93 z93
      refine scx z93 rfl rfl (exl_call Try.func17 rfl rfl (cons_ops rfl (cons_ops (u93.here _ rfl) nil_ops))) (c_Header_nil hd hs hp hsp hdp) ?_; intro w95 a95 t95 u95 z95
      refine sp z95 rfl rfl (ex_move (u95.here _ rfl)) ?_; intro a96 u96 z96
      refine sp z96 rfl rfl (ex_extract (u96.here _ rfl) rfl) ?_; intro a97 u97 z97
      refine sp z97 rfl rfl (ex_extract ((u97.past 54 rfl).trans (u96.here _ rfl)) rfl) ?_; intro a98 u98 z98
      refine sp z98 rfl rfl (ex_assign ((u98.past 57 rfl).trans (u97.here _ rfl))) ?_; intro a99 u99 z99
      refine sp z99 rfl rfl (ex_assign ((u99.past 58 rfl).trans (u98.here _ rfl))) ?_; intro a100 u100 z100
      have d101 := (u100.defs.trans (u99.defs.trans (u98.defs.trans (u97.defs.trans (u96.defs.trans (u95.defs.trans (u93.defs.trans d92)))))))
      refine seq_end ?_
      refine then_norm ?_
      have s102_10 := ((u100.past 10 rfl).trans ((u99.past 10 rfl).trans ((u98.past 10 rfl).trans ((u97.past 10 rfl).trans ((u96.past 10 rfl).trans ((u95.past 10 rfl).trans ((u93.past 10 rfl).trans ((u91.past 10 rfl).trans ((u90.past 10 rfl).trans ((u89.past 10 rfl).trans ((u88.past 10 rfl).trans ((u87.past 10 rfl).trans ((u86.past 10 rfl).trans ((u84.past 10 rfl).trans ((q65 10 rfl).trans s64_10)))))))))))))))
      have s103_7 := ((u100.past 7 rfl).trans ((u99.past 7 rfl).trans ((u98.past 7 rfl).trans ((u97.past 7 rfl).trans ((u96.past 7 rfl).trans ((u95.past 7 rfl).trans ((u93.past 7 rfl).trans ((u91.past 7 rfl).trans ((u90.past 7 rfl).trans ((u89.past 7 rfl).trans ((u88.past 7 rfl).trans ((u87.past 7 rfl).trans ((u86.past 7 rfl).trans ((u84.past 7 rfl).trans ((q65 7 rfl).trans ((u61.past 7 rfl).trans ((u60.past 7 rfl).trans ((u59.past 7 rfl).trans ((u58.past 7 rfl).trans ((u57.past 7 rfl).trans ((u50.past 7 rfl).trans ((u48.past 7 rfl).trans ((u47.past 7 rfl).trans ((q45 7 rfl).trans s44_7))))))))))))))))))))))))
      have s104_9 : a60.eval (.tmp 9) = .int .i64 r50 := (u60.here _ rfl)
      have s105_9 := ((u100.past 9 rfl).trans ((u99.past 9 rfl).trans ((u98.past 9 rfl).trans ((u97.past 9 rfl).trans ((u96.past 9 rfl).trans ((u95.past 9 rfl).trans ((u93.past 9 rfl).trans ((u91.past 9 rfl).trans ((u90.past 9 rfl).trans ((u89.past 9 rfl).trans ((u88.past 9 rfl).trans ((u87.past 9 rfl).trans ((u86.past 9 rfl).trans ((u84.past 9 rfl).trans ((q65 9 rfl).trans ((u61.past 9 rfl).trans s104_9))))))))))))))))
      have s106_5 : a3.eval (.tmp 5) = .pointer (some ⟨b3, 0, none⟩) := (u3.here _ rfl)
      have s107_5 := ((u100.past 5 rfl).trans ((u99.past 5 rfl).trans ((u98.past 5 rfl).trans ((u97.past 5 rfl).trans ((u96.past 5 rfl).trans ((u95.past 5 rfl).trans ((u93.past 5 rfl).trans ((u91.past 5 rfl).trans ((u90.past 5 rfl).trans ((u89.past 5 rfl).trans ((u88.past 5 rfl).trans ((u87.past 5 rfl).trans ((u86.past 5 rfl).trans ((u84.past 5 rfl).trans ((q65 5 rfl).trans ((u61.past 5 rfl).trans ((u60.past 5 rfl).trans ((u59.past 5 rfl).trans ((u58.past 5 rfl).trans ((u57.past 5 rfl).trans ((u50.past 5 rfl).trans ((u48.past 5 rfl).trans ((u47.past 5 rfl).trans ((q45 5 rfl).trans ((u40.past 5 rfl).trans ((u39.past 5 rfl).trans ((u38.past 5 rfl).trans ((u37.past 5 rfl).trans ((u36.past 5 rfl).trans ((u29.past 5 rfl).trans ((u28.past 5 rfl).trans ((u27.past 5 rfl).trans ((u17.past 5 rfl).trans ((u16.past 5 rfl).trans ((u15.past 5 rfl).trans ((u14.past 5 rfl).trans ((u13.past 5 rfl).trans ((u12.past 5 rfl).trans ((u10.past 5 rfl).trans ((u7.past 5 rfl).trans s106_5))))))))))))))))))))))))))))))))))))))))
      have hb3_108 := (Ext.keep t95 hb3_94)
      have H50_109 := (ArenaAt.keep (ArenaAt.keep (ArenaAt.keep H50 t65) t86) t95)
      have s110_3 : a1.eval (.tmp 3) = .pointer (some ⟨b1, 0, none⟩) := (u1.here _ rfl)
      have s111_3 := ((u100.past 3 rfl).trans ((u99.past 3 rfl).trans ((u98.past 3 rfl).trans ((u97.past 3 rfl).trans ((u96.past 3 rfl).trans ((u95.past 3 rfl).trans ((u93.past 3 rfl).trans ((u91.past 3 rfl).trans ((u90.past 3 rfl).trans ((u89.past 3 rfl).trans ((u88.past 3 rfl).trans ((u87.past 3 rfl).trans ((u86.past 3 rfl).trans ((u84.past 3 rfl).trans ((q65 3 rfl).trans ((u61.past 3 rfl).trans ((u60.past 3 rfl).trans ((u59.past 3 rfl).trans ((u58.past 3 rfl).trans ((u57.past 3 rfl).trans ((u50.past 3 rfl).trans ((u48.past 3 rfl).trans ((u47.past 3 rfl).trans ((q45 3 rfl).trans ((u40.past 3 rfl).trans ((u39.past 3 rfl).trans ((u38.past 3 rfl).trans ((u37.past 3 rfl).trans ((u36.past 3 rfl).trans ((u29.past 3 rfl).trans ((u28.past 3 rfl).trans ((u27.past 3 rfl).trans ((u17.past 3 rfl).trans ((u16.past 3 rfl).trans ((u15.past 3 rfl).trans ((u14.past 3 rfl).trans ((u13.past 3 rfl).trans ((u12.past 3 rfl).trans ((u10.past 3 rfl).trans ((u7.past 3 rfl).trans ((u3.past 3 rfl).trans s110_3)))))))))))))))))))))))))))))))))))))))))
      have hb1_112 := (Ext.keep t95 (Ext.keep t86 hb1_85))
      have s113_12 : a91.eval (.tmp 12) = .int .i64 2 := (u91.here _ rfl)
      have s114_12 := ((u100.past 12 rfl).trans ((u99.past 12 rfl).trans ((u98.past 12 rfl).trans ((u97.past 12 rfl).trans ((u96.past 12 rfl).trans ((u95.past 12 rfl).trans ((u93.past 12 rfl).trans s113_12)))))))
      have s115_14 : a100.eval (.tmp 14) = .int .i64 2 := (u100.here _ rfl)
      refine rgs mixed 82 [.eq (.bool true), .eq (.bool true), .eq (.int .i64 c50), .eq (.bool (decide (c50 = 0))), .eq (.bool (decide (c50 = 0))), .eq (.bool (decide (c50 = 0))), .eq (if (decide (c50 = 0)) = true then .pointer (some ⟨b29, 0, none⟩) else undef), .eq (if (decide (c50 = 0)) = true then .int .i64 r50 else undef), .eq (if (decide (c50 = 0)) = true then .agg #[.int .u32 hd, .int .u32 hs, .int .u8 hp, .int .u16 hsp, .int .u16 hdp] else undef), .eq (if (decide (c50 = 0)) = true then .bool (decide (Okn A50 r50) && den A50 (fun iQ => hbit hd hs hp hsp hdp iQ) r50) else undef), .eq (if (decide (c50 = 0)) = true then .agg #[.int .u32 fda, .int .i64 fdb, .int .u32 fsa, .int .i64 fsb, .int .i64 fp, .int .u16 fsl, .int .u16 fsh, .int .u16 fdl, .int .u16 fdh] else undef), .eq (if (decide (c50 = 0)) = true then .agg #[.int .u32 hd, .int .u32 hs, .int .u8 hp, .int .u16 hsp, .int .u16 hdp] else undef), .eq (if (decide (c50 = 0)) = true then .bool (rmatch fda fdb fsa fsb fp fsl fsh fdl fdh hd hs hp hsp hdp) else undef), .eq (if (decide (c50 = 0)) = true then .bool ((decide (Okn A50 r50) && den A50 (fun iQ => hbit hd hs hp hsp hdp iQ) r50) == (rmatch fda fdb fsa fsb fp fsl fsh fdl fdh hd hs hp hsp hdp)) else undef), .eq (.bool ((decide (c50 = 0)) && ((decide (Okn A50 r50) && den A50 (fun iQ => hbit hd hs hp hsp hdp iQ) r50) == (rmatch fda fdb fsa fsb fp fsl fsh fdl fdh hd hs hp hsp hdp)))), .eq (.bool ((decide (c50 = 0)) && ((decide (Okn A50 r50) && den A50 (fun iQ => hbit hd hs hp hsp hdp iQ) r50) == (rmatch fda fdb fsa fsb fp fsl fsh fdl fdh hd hs hp hsp hdp)))), .eq (if ((decide (c50 = 0)) && ((decide (Okn A50 r50) && den A50 (fun iQ => hbit hd hs hp hsp hdp iQ) r50) == (rmatch fda fdb fsa fsb fp fsl fsh fdl fdh hd hs hp hsp hdp))) = true then .int .i64 2 else undef), .eq (if ((decide (c50 = 0)) && ((decide (Okn A50 r50) && den A50 (fun iQ => hbit hd hs hp hsp hdp iQ) r50) == (rmatch fda fdb fsa fsb fp fsl fsh fdl fdh hd hs hp hsp hdp))) = true then .bool true else undef), .eq (.bool (((decide (c50 = 0)) && ((decide (Okn A50 r50) && den A50 (fun iQ => hbit hd hs hp hsp hdp iQ) r50) == (rmatch fda fdb fsa fsb fp fsl fsh fdl fdh hd hs hp hsp hdp))) && true)), .eq (.bool (((decide (c50 = 0)) && ((decide (Okn A50 r50) && den A50 (fun iQ => hbit hd hs hp hsp hdp iQ) r50) == (rmatch fda fdb fsa fsb fp fsl fsh fdl fdh hd hs hp hsp hdp))) && true)), .eq (if (((decide (c50 = 0)) && ((decide (Okn A50 r50) && den A50 (fun iQ => hbit hd hs hp hsp hdp iQ) r50) == (rmatch fda fdb fsa fsb fp fsl fsh fdl fdh hd hs hp hsp hdp))) && true) = true then .int .i64 2 else undef), .eq (if (((decide (c50 = 0)) && ((decide (Okn A50 r50) && den A50 (fun iQ => hbit hd hs hp hsp hdp iQ) r50) == (rmatch fda fdb fsa fsb fp fsl fsh fdl fdh hd hs hp hsp hdp))) && true) = true then .bool true else undef), .eq (.bool ((((decide (c50 = 0)) && ((decide (Okn A50 r50) && den A50 (fun iQ => hbit hd hs hp hsp hdp iQ) r50) == (rmatch fda fdb fsa fsb fp fsl fsh fdl fdh hd hs hp hsp hdp))) && true) && true)), .eq (.bool ((((decide (c50 = 0)) && ((decide (Okn A50 r50) && den A50 (fun iQ => hbit hd hs hp hsp hdp iQ) r50) == (rmatch fda fdb fsa fsb fp fsl fsh fdl fdh hd hs hp hsp hdp))) && true) && true))] [[], [(59, some 0)], [(10, none), (60, some 1)], [(61, some 2), (60, some 1)], [(60, some 1), (62, some 3)], [(63, some 4)], [(7, none), (64, some 5)], [(9, none), (64, some 5)], [(5, none), (64, some 5)], [(65, some 6), (66, some 7), (67, some 8), (64, some 5)], [(3, none), (64, some 5)], [(5, none), (64, some 5)], [(69, some 10), (70, some 11), (64, some 5)], [(68, some 9), (71, some 12), (64, some 5)], [(64, some 5), (72, some 13)], [(73, some 14)], [(12, none), (74, some 15)], [(75, some 16), (74, some 15)], [(74, some 15), (76, some 17)], [(77, some 18)], [(14, none), (78, some 19)], [(79, some 20), (78, some 19)], [(78, some 19), (80, some 21)], [(81, some 22)]] d101 z100 (by kernel_rfl) ⟨Oc rfl (fun _ _ T _ => ⟨exl_call Try.func13 rfl rfl nil_ops, c_awake07⟩) rfl,
        Ov rfl rfl fun _ _ T ⟨k59, _⟩ => ex_move k59,
        Oy rfl rfl rfl fun _ _ T ⟨k10, k60, _⟩ => ⟨k60, ex_move (k10.trans s102_10)⟩,
        Oy rfl rfl rfl fun _ _ T ⟨k61, k60, _⟩ => ⟨k60, ex_eql k61 rfl⟩,
        Ov rfl rfl fun _ _ T ⟨k60, k62, _⟩ => ex_pick_t k60 k62,
        Ov rfl rfl fun _ _ T ⟨k63, _⟩ => ex_move k63,
        Og rfl rfl rfl fun _ _ T ⟨k7, k64, _⟩ => ⟨k64, fun hcQ => ex_move (k7.trans s103_7)⟩,
        Og rfl rfl rfl fun _ _ T ⟨k9, k64, _⟩ => ⟨k64, fun hcQ => ex_move (k9.trans s105_9)⟩,
        Og rfl rfl rfl fun _ _ T ⟨k5, k64, _⟩ => ⟨k64, fun hcQ => ex_loadAgg (cs := [.int .u32 hd, .int .u32 hs, .int .u8 hp, .int .u16 hsp, .int .u16 hdp]) (k5.trans s107_5) (Try.isAgg31 _) (Try.sizeOf31 _) (cells_of (off := 0) (Ext.keep T.ext hb3_108) rfl)⟩,
        Ogc rfl rfl (fun _ _ T ⟨k65, k66, k67, k64, _⟩ => ⟨k64, fun hcQ => ⟨exl_call Try.func18 rfl rfl (cons_ops (k65.trans (if_pos hcQ)) (cons_ops (k66.trans (if_pos hcQ)) (cons_ops (k67.trans (if_pos hcQ)) nil_ops))), c_In (ArenaAt.keep H50_109 T.ext) R50.wf _ hd hs hp hsp hdp⟩⟩) rfl,
        Og rfl rfl rfl fun _ _ T ⟨k3, k64, _⟩ => ⟨k64, fun hcQ => ex_loadAgg (cs := [.int .u32 fda, .int .i64 fdb, .int .u32 fsa, .int .i64 fsb, .int .i64 fp, .int .u16 fsl, .int .u16 fsh, .int .u16 fdl, .int .u16 fdh]) (k3.trans s111_3) (Try.isAgg29 _) (Try.sizeOf29 _) (cells_of (off := 0) (Ext.keep T.ext hb1_112) rfl)⟩,
        Og rfl rfl rfl fun _ _ T ⟨k5, k64, _⟩ => ⟨k64, fun hcQ => ex_loadAgg (cs := [.int .u32 hd, .int .u32 hs, .int .u8 hp, .int .u16 hsp, .int .u16 hdp]) (k5.trans s107_5) (Try.isAgg31 _) (Try.sizeOf31 _) (cells_of (off := 0) (Ext.keep T.ext hb3_108) rfl)⟩,
        Ogc rfl rfl (fun _ _ T ⟨k69, k70, k64, _⟩ => ⟨k64, fun hcQ => by have hdQ := hcQ; (try simp only [Bool.and_eq_true, Bool.or_eq_false_iff, Bool.not_eq_true', Bool.not_eq_false', beq_iff_eq, decide_eq_true_eq, decide_eq_false_iff_not] at hdQ); exact ⟨exl_call Try.func19 rfl rfl (cons_ops (k69.trans (if_pos hcQ)) (cons_ops (k70.trans (if_pos hcQ)) nil_ops)), c_rmatch fda fdb fsa fsb fp fsl fsh fdl fdh hd hs hp hsp hdp (by omega) (by omega) (by omega) (by omega) (by omega) (by omega) (by omega) _⟩⟩) rfl,
        Og rfl rfl rfl fun _ _ T ⟨k68, k71, k64, _⟩ => ⟨k64, fun hcQ => ex_eqlb Try.underlying4 (k68.trans (if_pos hcQ)) (k71.trans (if_pos hcQ))⟩,
        Ov rfl rfl fun _ _ T ⟨k64, k72, _⟩ => ex_pick_and k64 k72 rfl,
        Ov rfl rfl fun _ _ T ⟨k73, _⟩ => ex_move k73,
        Og rfl rfl rfl fun _ _ T ⟨k12, k74, _⟩ => ⟨k74, fun hcQ => ex_move (k12.trans s114_12)⟩,
        Og rfl rfl rfl fun _ _ T ⟨k75, k74, _⟩ => ⟨k74, fun hcQ => ex_eql (m := 2) (n := 2) (k75.trans (if_pos hcQ)) rfl⟩,
        Ov rfl rfl fun _ _ T ⟨k74, k76, _⟩ => ex_pick_and k74 k76 rfl,
        Ov rfl rfl fun _ _ T ⟨k77, _⟩ => ex_move k77,
        Og rfl rfl rfl fun _ _ T ⟨k14, k78, _⟩ => ⟨k78, fun hcQ => ex_move (k14.trans s115_14)⟩,
        Og rfl rfl rfl fun _ _ T ⟨k79, k78, _⟩ => ⟨k78, fun hcQ => ex_eql (m := 2) (n := 2) (k79.trans (if_pos hcQ)) rfl⟩,
        Ov rfl rfl fun _ _ T ⟨k78, k80, _⟩ => ex_pick_and k78 k80 rfl,
        Ov rfl rfl fun _ _ T ⟨k81, _⟩ => ex_assign k81,
        trivial⟩ ?_
      intro a116 w116 d116 z116 t116 e116 q116
      refine wp_ret ?_
      have s117_6 : a116.eval (.tmp 6) = .bool ((((decide (c50 = 0)) && ((decide (Okn A50 r50) && den A50 (fun iQ => hbit hd hs hp hsp hdp iQ) r50) == (rmatch fda fdb fsa fsb fp fsl fsh fdl fdh hd hs hp hsp hdp))) && true) && true) := e116.2.2.2.2.2.2.2.2.2.2.2.2.2.2.2.2.2.2.2.2.2.2.2.1
      repeat (first | (with_reducible refine then_ret ?_) | (with_reducible refine block_ret ?_))
      refine retl (rs := [.tmp 6]) Try.results3 ⟨s117_6, trivial⟩ d116 ?_
      have x118 := (Touch.trans (Touch.trans (Touch.trans (Touch.trans (Touch.mut x55 m50 i34) (Ext.touch t65)) (Ext.touch t86)) (Ext.touch t95)) (Ext.touch t116))
      obtain ⟨hc0, hok, hden⟩ := R50.ok.elim id (fun hQ => absurd hQ c66)
      exact ⟨by rw [hden, filt_match h1 h2 rk hpr hh, hc0]; simp [hok], (x118).ext⟩

end Go.Proofs.Yticodddigaiipaa
