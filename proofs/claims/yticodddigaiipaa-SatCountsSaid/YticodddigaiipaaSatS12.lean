/-
 Contracts of functions of the given program, each proved by a walk through its code: what a call answers, and what it leaves of memory; conditions: those ahead of each theorem's colon.
-/
import Derived.Test.YticodddigaiipaaSatS11
import Derived.Test.YticodddigaiipaaSatL13
set_option linter.unusedVariables false
set_option linter.unusedSimpArgs false
namespace Go.Proofs.Yticodddigaiipaa
open Go.RowKit


theorem c_withV {v : Val} {i : Int} {on : Bool} (h0 : 0 ≤ i) (h1 : i < 104) (w : World) : Calls Try.prog 113 #[.agg #[.int .u32 ((hmk v).1), .int .u32 ((hmk v).2.1), .int .u8 ((hmk v).2.2.1), .int .u16 ((hmk v).2.2.2.1), .int .u16 ((hmk v).2.2.2.2)], .int .i64 i, .bool on] w fun e w' => e = .returned (.agg #[.int .u32 ((hmk (upd v i on)).1), .int .u32 ((hmk (upd v i on)).2.1), .int .u8 ((hmk (upd v i on)).2.2.1), .int .u16 ((hmk (upd v i on)).2.2.2.1), .int .u16 ((hmk (upd v i on)).2.2.2.2)]) ∧ Ext w w' := by
 have := c_hwith (hmk v).1 (hmk v).2.1 (hmk v).2.2.1 (hmk v).2.2.2.1 (hmk v).2.2.2.2 i on w
 rw [with_mk v h0 h1] at this; exact this
theorem h50_mk : hmk (fun _ => false) = h50 := by rfl
/-- what Count answers -/
def countF (A : List N3) (f : Int) : Nat := cntN A f * 2 ^ ((nodeV A f).1).toNat
theorem countF_lt {A : List N3} (h : Wf A) {f : Int} (hf : Okn A f) : countF A f < 340282366920938463463374607431768211456 ∧ 0 ≤ (nodeV A f).1 ∧ (nodeV A f).1 ≤ 104 := by
 have h1 := cntN_le h hf
 have h2 := lev_le h hf
 rw [countF, nodeV_1 h hf]
 refine ⟨?_, h2.1, h2.2.1⟩
 have h3 := Nat.mul_le_mul_right (2 ^ (lev A f).toNat) h1
 rw [← Nat.pow_add, show (104 - lev A f).toNat + (lev A f).toNat = 104 by omega] at h3
 exact Nat.lt_of_le_of_lt h3 (by decide)
/-- what Least answers -/
def leastV (A : List N3) (f : Int) : H5 := if f = 0 then h50 else match LS (fun u => den A u f) 104 (fun _ => false) with | some v => hmk v | none => h50

set_option maxRecDepth 100000 in
set_option maxHeartbeats 4000000 in
theorem c_satCount {w : World} {b : Nat} {Fp : Nat → Prop} {A : List N3} {most : Int} (H : ArenaAt w b Fp A most) (hW : Wf A) (f : Int) (hf : Okn A f) : Calls Try.prog 24 #[.pointer (some ⟨b, 0, none⟩), .int .i64 f] w fun e w' => e = .returned (.agg #[.int .u64 (hiW (countF A f)), .int .u64 (loW (countF A f))]) ∧ Ext w w' := by
 have hf' := hf; unfold Okn at hf'
 refine enter 26 Try.ntmps24 Try.func24 rfl (Nat.le_of_ble_eq_true rfl) fun a0 d0 z0 hargs => ?_
 have s0_0 : a0.eval (.tmp 0) = .pointer (some ⟨b, 0, none⟩) := hargs 0 _ rfl
 have s0_1 : a0.eval (.tmp 1) = .int .i64 f := hargs 1 _ rfl
 have x0 := Touch.refl NoF w
 refine wp_seq ?_
 refine seq_begin ?_
 refine salloc z0 rfl (zv_57 _) ?_; intro b1 w1 a1 t1 g1 hb1 u1 z1
 have o2 : ¬ Fp b1 := fun hQ => by have := ArenaAt.lt H hQ; omega
 have yb1_3 := Nat.le_trans (Touch.size x0) g1
 have d4 := (u1.defs.trans d0)
 refine seq_end ?_
 refine then_norm ?_
 refine wp_seq_k fun K5 hK5 => ?_
 refine wp_seq ?_
 refine seq_begin ?_
 refine sp z1 rfl rfl (ex_move ((u1.past 0 rfl).trans s0_0)) ?_; intro a6 u6 z6
 refine sp z6 rfl rfl (ex_move ((u6.past 1 rfl).trans ((u1.past 1 rfl).trans s0_1))) ?_; intro a7 u7 z7
 have H_9 := (ArenaAt.keep H t1)
 refine scx z7 rfl rfl (exl_call Try.func62 rfl rfl (cons_ops ((u7.past 8 rfl).trans (u6.here _ rfl)) (cons_ops (u7.here _ rfl) nil_ops))) (a_has H_9 _) ?_; intro w8 a8 t8 u8 z8
 refine sp z8 rfl rfl (ex_not (u8.here _ rfl)) ?_; intro a10 u10 z10
 have d11 := (u10.defs.trans (u8.defs.trans (u7.defs.trans (u6.defs.trans d4))))
 refine seq_end ?_
 refine then_norm ?_
 have x12 := (Touch.trans (Touch.trans x0 (Ext.touch t1)) (Ext.touch t8))
 rcases Bool.eq_false_or_eq_true (!(decide (Okn A f))) with y13 | y13
 ·have c13 := y13; try simp only [Bool.and_eq_true, Bool.or_eq_true, Bool.and_eq_false_iff, Bool.or_eq_false_iff, Bool.not_eq_true', Bool.not_eq_false', decide_eq_true_eq, decide_eq_false_iff_not] at c13
  have s14_11 : a10.eval (.tmp 11) = .bool (!(decide (Okn A f))) := (u10.here _ rfl)
  refine wp_cond_true (s14_11.trans (by rw [y13])) ?_
  refine wp_seq ?_
  refine seq_begin ?_
  refine sp z10 rfl rfl (exl_build nil_parts (bd_57_ _)) ?_; intro a15 u15 z15
  have hb1_17 := (Ext.keep t8 hb1)
  refine sstore (cs := [.int .u64 0, .int .u64 0]) (vs := [.int .u64 0, .int .u64 0]) (cs' := [.int .u64 0, .int .u64 0]) z15 rfl ((u15.past 4 rfl).trans ((u10.past 4 rfl).trans ((u8.past 4 rfl).trans ((u7.past 4 rfl).trans ((u6.past 4 rfl).trans (u1.here _ rfl)))))) (u15.here _ rfl) hb1_17 (Try.sizeOf57 _) rfl rfl (by decide) (Nat.le_of_ble_eq_true rfl) rfl rfl ?_; intro w16 a16 t16 u16 z16
  have d18 := (u16.defs.trans (u15.defs.trans d11))
  refine seq_end ?_
  refine then_norm ?_
  refine wp_ret ?_
  have s19_4 : a1.eval (.tmp 4) = .pointer (some ⟨b1, 0, none⟩) := (u1.here _ rfl)
  have s20_4 := ((u16.past 4 rfl).trans ((u15.past 4 rfl).trans ((u10.past 4 rfl).trans ((u8.past 4 rfl).trans ((u7.past 4 rfl).trans ((u6.past 4 rfl).trans s19_4))))))
  repeat (first | (with_reducible refine then_ret ?_) | (with_reducible refine block_ret ?_))
  refine retl (rs := [.cell 4 57]) Try.results24 ⟨⟨_, s20_4, run_loadVarA (cs := [.int .u64 0, .int .u64 0]) (Try.isAgg57 _) (Try.sizeOf57 _) (cells_of (off := 0) t16.here rfl)⟩, trivial⟩ d18 ?_
  exfalso; simp_all; done
 ·have c13 := y13; try simp only [Bool.and_eq_true, Bool.or_eq_true, Bool.and_eq_false_iff, Bool.or_eq_false_iff, Bool.not_eq_true', Bool.not_eq_false', decide_eq_true_eq, decide_eq_false_iff_not] at c13
  have s21_11 : a10.eval (.tmp 11) = .bool (!(decide (Okn A f))) := (u10.here _ rfl)
  refine wp_cond_false (s21_11.trans (by rw [y13])) ?_
  refine wp_skip ?_
  repeat (with_reducible refine block_norm ?_)
  refine hK5 _ _ ?_
  refine wp_seq ?_
  refine seq_begin ?_
  have p23 := fr4 u1.past u6.past u7.past u8.past
  refine sp z10 rfl rfl (ex_move ((u10.past 0 rfl).trans ((p23 0 rfl).trans s0_0))) ?_; intro a22 u22 z22
  refine sp z22 rfl rfl (ex_move ((u22.past 1 rfl).trans ((u10.past 1 rfl).trans ((p23 1 rfl).trans s0_1)))) ?_; intro a24 u24 z24
  have H_26 := (ArenaAt.keep H_9 t8)
  refine scx z24 rfl rfl (exl_call Try.func75 rfl rfl (cons_ops ((u24.past 14 rfl).trans (u22.here _ rfl)) (cons_ops (u24.here _ rfl) nil_ops))) (c_Node H_26 f (by assumption)) ?_; intro w25 a25 t25 u25 z25
  refine sp z25 rfl rfl (ex_move (u25.here _ rfl)) ?_; intro a27 u27 z27
  refine sp z27 rfl rfl (ex_extract (u27.here _ rfl) rfl) ?_; intro a28 u28 z28
  refine sp z28 rfl rfl (ex_extract ((u28.past 13 rfl).trans (u27.here _ rfl)) rfl) ?_; intro a29 u29 z29
  refine sp z29 rfl rfl (ex_extract ((u29.past 13 rfl).trans ((u28.past 13 rfl).trans (u27.here _ rfl))) rfl) ?_; intro a30 u30 z30
  refine sp z30 rfl rfl (ex_assign ((u30.past 17 rfl).trans ((u29.past 17 rfl).trans (u28.here _ rfl)))) ?_; intro a31 u31 z31
  refine sp z31 rfl rfl (ex_assign ((u31.past 18 rfl).trans ((u30.past 18 rfl).trans (u29.here _ rfl)))) ?_; intro a32 u32 z32
  refine sp z32 rfl rfl (ex_assign ((u32.past 19 rfl).trans ((u31.past 19 rfl).trans (u30.here _ rfl)))) ?_; intro a33 u33 z33
  have d34 := (u33.defs.trans (u32.defs.trans (u31.defs.trans (u30.defs.trans (u29.defs.trans (u28.defs.trans (u27.defs.trans (u25.defs.trans (u24.defs.trans (u22.defs.trans d11))))))))))
  refine seq_end ?_
  refine then_norm ?_
  have hcf := countF_lt hW hf; unfold countF at hcf
  refine wp_seq ?_
  refine seq_begin ?_
  have p36 := fr4 u10.past u22.past u24.past u25.past
  have p37 := fr4 u27.past u28.past u29.past u30.past
  refine sp z33 rfl rfl (ex_move ((u33.past 0 rfl).trans ((u32.past 0 rfl).trans ((u31.past 0 rfl).trans ((p37 0 rfl).trans ((p36 0 rfl).trans ((p23 0 rfl).trans s0_0))))))) ?_; intro a35 u35 z35
  have p39 := fr4 u31.past u32.past u33.past u35.past
  have p40 := fr4 p23 p36 p37 p39
  refine sp z35 rfl rfl (ex_move ((p40 1 rfl).trans s0_1)) ?_; intro a38 u38 z38
  refine snew (mk := fun bQ => .map (some bQ)) z38 rfl rfl (ex_makeMap Try.underlying148) ?_; intro b41 w41 a41 t41 g41 hb41 u41 z41
  have hb1_43 := (Ext.keep t25 (Ext.keep t8 hb1))
  have n42_b1_b41 := ne_lt (lt_of hb1_43) g41
  have H_45 := (ArenaAt.keep H_26 t25)
  have o44 : ¬ Fp b41 := fun hQ => by have := ArenaAt.lt H_45 hQ; omega
  have x47 := (Touch.trans x12 (Ext.touch t25))
  have yb41_46 := Nat.le_trans (Touch.size x47) g41
  have hm41 := MapF.made (ek := iv) (ev := wv) hb41
  have H_49 := (ArenaAt.keep H_45 t41)
  refine sc z41 rfl rfl (exl_call Try.func76 rfl rfl (cons_ops ((u41.past 20 rfl).trans ((u38.past 20 rfl).trans (u35.here _ rfl))) (cons_ops ((u41.past 21 rfl).trans (u38.here _ rfl)) (cons_ops (u41.here _ rfl) nil_ops)))) (c_count H_49 ⟨_, _, hm41, fun pQ xQ hQ => by simp at hQ⟩ o44 hW f hf) ?_
  rintro e48 w48 ⟨he48, tc48, mc48⟩; refine ⟨_, he48, ?_⟩; intro a48 u48 z48
  refine sp z48 rfl rfl (ex_move ((u48.past 5 rfl).trans ((u41.past 5 rfl).trans ((u38.past 5 rfl).trans ((u35.past 5 rfl).trans ((u33.past 5 rfl).trans ((u32.past 5 rfl).trans (u31.here _ rfl)))))))) ?_; intro a50 u50 z50
  refine scx z50 rfl rfl (exl_call Try.func77 rfl rfl (cons_ops ((u50.past 23 rfl).trans (u48.here _ rfl)) (cons_ops (u50.here _ rfl) nil_ops))) (c_wupW (m := (cntN A f)) (n := ((nodeV A f).1)) (by omega) (by omega) (hcf.1) _) ?_; intro w51 a51 t51 u51 z51
  have p53 := fr4 u38.past u41.past u48.past u50.past
  have hb1_54 := (Ext.keep t51 (Mut.keep (⟨tc48, fun _ hQ => .inl hQ⟩ : Mut (fun kQ => kQ = b41) (fun kQ => kQ = b41) _ _) (Ext.keep t41 hb1_43) (fun eQ => n42_b1_b41 eQ)))
  refine sstore (cs := [.int .u64 0, .int .u64 0]) (vs := [.int .u64 (hiW ((cntN A f) * 2 ^ Int.toNat ((nodeV A f).1))), .int .u64 (loW ((cntN A f) * 2 ^ Int.toNat ((nodeV A f).1)))]) (cs' := [.int .u64 (hiW ((cntN A f) * 2 ^ Int.toNat ((nodeV A f).1))), .int .u64 (loW ((cntN A f) * 2 ^ Int.toNat ((nodeV A f).1)))]) z51 rfl ((u51.past 4 rfl).trans ((p53 4 rfl).trans ((p39 4 rfl).trans ((p37 4 rfl).trans ((p36 4 rfl).trans ((u8.past 4 rfl).trans ((u7.past 4 rfl).trans ((u6.past 4 rfl).trans (u1.here _ rfl))))))))) (u51.here _ rfl) hb1_54 (Try.sizeOf57 _) rfl rfl (by decide) (Nat.le_of_ble_eq_true rfl) rfl rfl ?_; intro w52 a52 t52 u52 z52
  have d55 := (u52.defs.trans (u51.defs.trans (u50.defs.trans (u48.defs.trans (u41.defs.trans (u38.defs.trans (u35.defs.trans d34)))))))
  refine seq_end ?_
  refine then_norm ?_
  refine wp_ret ?_
  have s56_4 : a1.eval (.tmp 4) = .pointer (some ⟨b1, 0, none⟩) := (u1.here _ rfl)
  have s57_4 := ((u52.past 4 rfl).trans ((u51.past 4 rfl).trans ((p53 4 rfl).trans ((p39 4 rfl).trans ((p37 4 rfl).trans ((p36 4 rfl).trans ((u8.past 4 rfl).trans ((u7.past 4 rfl).trans ((u6.past 4 rfl).trans s56_4)))))))))
  repeat (first | (with_reducible refine then_ret ?_) | (with_reducible refine block_ret ?_))
  refine retl (rs := [.cell 4 57]) Try.results24 ⟨⟨_, s57_4, run_loadVarA (cs := [.int .u64 (hiW ((cntN A f) * 2 ^ Int.toNat ((nodeV A f).1))), .int .u64 (loW ((cntN A f) * 2 ^ Int.toNat ((nodeV A f).1)))]) (Try.isAgg57 _) (Try.sizeOf57 _) (cells_of (off := 0) t52.here rfl)⟩, trivial⟩ d55 ?_
  have x58 := (Touch.turn (Touch.trans (Touch.mut (Touch.trans x47 (Ext.touch t41)) (⟨tc48, fun _ hQ => .inl hQ⟩ : Mut (fun kQ => kQ = b41) (fun kQ => kQ = b41) _ _) (fun jQ eQ => Or.inr (by rw [eQ]; exact yb41_46))) (Ext.touch t51)) t52 (Or.inr yb1_3))
  exact ⟨rfl, (x58).ext⟩

set_option maxRecDepth 100000 in
set_option maxHeartbeats 4000000 in
theorem c_walk {w : World} {b : Nat} {Fp : Nat → Prop} {A : List N3} {most : Int} (H : ArenaAt w b Fp A most) (hW : Wf A) (f : Int) (hf : Okn A f) : Calls Try.prog 78 #[.pointer (some ⟨b, 0, none⟩), .int .i64 f, .bool false] w fun e w' => e = .returned (.tuple #[.agg #[.int .u32 ((leastV A f).1), .int .u32 ((leastV A f).2.1), .int .u8 ((leastV A f).2.2.1), .int .u16 ((leastV A f).2.2.2.1), .int .u16 ((leastV A f).2.2.2.2)], .bool (decide (f ≠ 0))]) ∧ Ext w w' := by
 have hf' := hf; unfold Okn at hf'
 refine enter 60 Try.ntmps78 Try.func78 rfl (Nat.le_of_ble_eq_true rfl) fun a0 d0 z0 hargs => ?_
 have s0_0 : a0.eval (.tmp 0) = .pointer (some ⟨b, 0, none⟩) := hargs 0 _ rfl
 have s0_1 : a0.eval (.tmp 1) = .int .i64 f := hargs 1 _ rfl
 have s0_2 : a0.eval (.tmp 2) = .bool false := hargs 2 _ rfl
 have x0 := Touch.refl NoF w
 refine wp_seq ?_
 refine seq_begin ?_
 refine salloc z0 rfl (zv_31 _) ?_; intro b1 w1 a1 t1 g1 hb1 u1 z1
 have o2 : ¬ Fp b1 := fun hQ => by have := ArenaAt.lt H hQ; omega
 have yb1_3 := Nat.le_trans (Touch.size x0) g1
 refine sp z1 rfl rfl (ex_assign rfl) ?_; intro a4 u4 z4
 have d5 := (u4.defs.trans (u1.defs.trans d0))
 refine seq_end ?_
 refine then_norm ?_
 refine wp_seq ?_
 refine seq_begin ?_
 refine salloc z4 rfl (zv_31 _) ?_; intro b6 w6 a6 t6 g6 hb6 u6 z6
 have n7_b1_b6 := ne_lt (lt_of hb1) g6
 have H_9 := (ArenaAt.keep H t1)
 have o8 : ¬ Fp b6 := fun hQ => by have := ArenaAt.lt H_9 hQ; omega
 have x11 := (Touch.trans x0 (Ext.touch t1))
 have yb6_10 := Nat.le_trans (Touch.size x11) g6
 have d12 := (u6.defs.trans d5)
 refine seq_end ?_
 refine then_norm ?_
 refine wp_seq_k fun K13 hK13 => ?_
 refine wp_seq ?_
 refine seq_begin ?_
 refine sp z6 rfl rfl (ex_move ((u6.past 0 rfl).trans ((u4.past 0 rfl).trans ((u1.past 0 rfl).trans s0_0)))) ?_; intro a14 u14 z14
 have p16 := fr4 u1.past u4.past u6.past u14.past
 refine sp z14 rfl rfl (ex_move ((p16 1 rfl).trans s0_1)) ?_; intro a15 u15 z15
 have H_18 := (ArenaAt.keep H_9 t6)
 refine scx z15 rfl rfl (exl_call Try.func62 rfl rfl (cons_ops ((u15.past 16 rfl).trans (u14.here _ rfl)) (cons_ops (u15.here _ rfl) nil_ops))) (a_has H_18 _) ?_; intro w17 a17 t17 u17 z17
 refine sp z17 rfl rfl (ex_not (u17.here _ rfl)) ?_; intro a19 u19 z19
 refine sp z19 rfl rfl (ex_move (u19.here _ rfl)) ?_; intro a20 u20 z20
 have p22 := fr4 u15.past u17.past u19.past u20.past
 refine sg z20 rfl rfl rfl (u20.here _ rfl) (fun hcQ => ex_move ((p22 1 rfl).trans ((p16 1 rfl).trans s0_1))) ?_; intro a21 u21 z21
 refine sg z21 rfl rfl rfl ((u21.past 20 rfl).trans (u20.here _ rfl)) (fun hcQ => ex_eql ((u21.here _ rfl).trans (if_pos hcQ)) rfl) ?_; intro a23 u23 z23
 refine sp z23 rfl rfl (ex_pick_or ((u23.past 20 rfl).trans ((u21.past 20 rfl).trans (u20.here _ rfl))) rfl (u23.here _ rfl)) ?_; intro a24 u24 z24
 have d25 := (u24.defs.trans (u23.defs.trans (u21.defs.trans (u20.defs.trans (u19.defs.trans (u17.defs.trans (u15.defs.trans (u14.defs.trans d12))))))))
 refine seq_end ?_
 refine then_norm ?_
 have x26 := (Touch.trans (Touch.trans x11 (Ext.touch t6)) (Ext.touch t17))
 rcases Bool.eq_false_or_eq_true ((!(decide (Okn A f))) || (decide (f = 0))) with y27 | y27
 ·have c27 := y27; try simp only [Bool.and_eq_true, Bool.or_eq_true, Bool.and_eq_false_iff, Bool.or_eq_false_iff, Bool.not_eq_true', Bool.not_eq_false', decide_eq_true_eq, decide_eq_false_iff_not] at c27
  have s28_23 : a24.eval (.tmp 23) = .bool ((!(decide (Okn A f))) || (decide (f = 0))) := (u24.here _ rfl)
  refine wp_cond_true (s28_23.trans (by rw [y27])) ?_
  refine wp_seq ?_
  refine seq_begin ?_
  have hb6_30 := (Ext.keep t17 hb6)
  refine sp z24 rfl rfl (ex_loadAgg (cs := [.int .u32 0, .int .u32 0, .int .u8 0, .int .u16 0, .int .u16 0]) ((u24.past 8 rfl).trans ((u23.past 8 rfl).trans ((u21.past 8 rfl).trans ((p22 8 rfl).trans ((u14.past 8 rfl).trans (u6.here _ rfl)))))) (Try.isAgg31 _) (Try.sizeOf31 _) (cells_of (off := 0) hb6_30 rfl)) ?_; intro a29 u29 z29
  have p32 := fr4 u21.past u23.past u24.past u29.past
  have hb1_33 := (Ext.keep t17 (Ext.keep t6 hb1))
  refine sstore (cs := [.int .u32 0, .int .u32 0, .int .u8 0, .int .u16 0, .int .u16 0]) (vs := [.int .u32 0, .int .u32 0, .int .u8 0, .int .u16 0, .int .u16 0]) (cs' := [.int .u32 0, .int .u32 0, .int .u8 0, .int .u16 0, .int .u16 0]) z29 rfl ((p32 6 rfl).trans ((p22 6 rfl).trans ((u14.past 6 rfl).trans ((u6.past 6 rfl).trans ((u4.past 6 rfl).trans (u1.here _ rfl)))))) (u29.here _ rfl) hb1_33 (Try.sizeOf31 _) rfl rfl (by decide) (Nat.le_of_ble_eq_true rfl) rfl rfl ?_; intro w31 a31 t31 u31 z31
  refine sp z31 rfl rfl (ex_assign rfl) ?_; intro a34 u34 z34
  have d35 := (u34.defs.trans (u31.defs.trans (u29.defs.trans d25)))
  refine seq_end ?_
  refine then_norm ?_
  refine wp_ret ?_
  have s36_6 : a1.eval (.tmp 6) = .pointer (some ⟨b1, 0, none⟩) := (u1.here _ rfl)
  have s37_6 := ((u34.past 6 rfl).trans ((u31.past 6 rfl).trans ((p32 6 rfl).trans ((p22 6 rfl).trans ((u14.past 6 rfl).trans ((u6.past 6 rfl).trans ((u4.past 6 rfl).trans s36_6)))))))
  have s38_7 : a34.eval (.tmp 7) = .bool false := (u34.here _ rfl)
  repeat (first | (with_reducible refine then_ret ?_) | (with_reducible refine block_ret ?_))
  refine rett (rs := [.cell 6 31, .tmp 7]) (vs := [.agg #[.int .u32 0, .int .u32 0, .int .u8 0, .int .u16 0, .int .u16 0], .bool false]) Try.results78 ⟨⟨_, s37_6, run_loadVarA (cs := [.int .u32 0, .int .u32 0, .int .u8 0, .int .u16 0, .int .u16 0]) (Try.isAgg31 _) (Try.sizeOf31 _) (cells_of (off := 0) t31.here rfl)⟩, ⟨s38_7, trivial⟩⟩ (by simp) d35 ?_
  have x39 := (Touch.turn x26 t31 (Or.inr yb1_3))
  have e0 : f = 0 := by simp_all
  subst e0
  exact ⟨by rfl, (x39).ext⟩
 ·have c27 := y27; try simp only [Bool.and_eq_true, Bool.or_eq_true, Bool.and_eq_false_iff, Bool.or_eq_false_iff, Bool.not_eq_true', Bool.not_eq_false', decide_eq_true_eq, decide_eq_false_iff_not] at c27
  have s40_23 : a24.eval (.tmp 23) = .bool ((!(decide (Okn A f))) || (decide (f = 0))) := (u24.here _ rfl)
  refine wp_cond_false (s40_23.trans (by rw [y27])) ?_
  refine wp_skip ?_
  repeat (with_reducible refine block_norm ?_)
  refine hK13 _ _ ?_
  refine wp_seq_k fun K41 hK41 => ?_
  refine rgs mixed 60 [.eq (.int .i64 0)] [[]] d25 z24 (by kernel_rfl) ⟨Ov rfl rfl fun _ _ T _ => ex_move rfl, trivial⟩ ?_
  intro a42 w42 d42 z42 t42 e42 q42
  refine wp_block ?_
  have hf0 : f ≠ 0 := by intro e0; simp_all
  have hl0 := lev_le hW hf
  have p45 := fr4 u21.past u23.past u24.past q42
  have s44_0 := ((p45 0 rfl).trans ((p22 0 rfl).trans ((p16 0 rfl).trans s0_0)))
  have s46_1 := ((p45 1 rfl).trans ((p22 1 rfl).trans ((p16 1 rfl).trans s0_1)))
  have s47_2 := ((p45 2 rfl).trans ((p22 2 rfl).trans ((p16 2 rfl).trans s0_2)))
  have s48_6 : a1.eval (.tmp 6) = .pointer (some ⟨b1, 0, none⟩) := (u1.here _ rfl)
  have s49_6 := ((p45 6 rfl).trans ((p22 6 rfl).trans ((u14.past 6 rfl).trans ((u6.past 6 rfl).trans ((u4.past 6 rfl).trans s48_6)))))
  have s50_7 : a4.eval (.tmp 7) = .bool false := (u4.here _ rfl)
  have s51_7 := ((p45 7 rfl).trans ((p22 7 rfl).trans ((u14.past 7 rfl).trans ((u6.past 7 rfl).trans s50_7))))
  have s52_8 : a6.eval (.tmp 8) = .pointer (some ⟨b6, 0, none⟩) := (u6.here _ rfl)
  have s53_8 := ((p45 8 rfl).trans ((p22 8 rfl).trans ((u14.past 8 rfl).trans s52_8)))
  have s54_25 : a42.eval (.tmp 25) = .int .i64 0 := e42.1
  have x55 := (Touch.trans x26 (Ext.touch t42))
  have H_56 := (ArenaAt.keep (ArenaAt.keep H_18 t17) t42)
  have hb1_58 := (Ext.keep t42 (Ext.keep t17 (Ext.keep t6 hb1)))
  have hb6_60 := (Ext.keep t42 (Ext.keep t17 hb6))
  refine wp_loopg (σ := Nat) (fun nQ aQ wQ => ∃ i : Nat, ∃ m : Nat, ∃ g : Int, ∃ v : Val, nQ = (104 - i) ∧
   aQ.defers = [] ∧
   aQ.tmps.size = 60 ∧
   aQ.eval (.tmp 0) = .pointer (some ⟨b, 0, none⟩) ∧
   aQ.eval (.tmp 1) = .int .i64 g ∧
   aQ.eval (.tmp 2) = .bool false ∧
   aQ.eval (.tmp 6) = .pointer (some ⟨b1, 0, none⟩) ∧
   aQ.eval (.tmp 7) = .bool false ∧
   aQ.eval (.tmp 8) = .pointer (some ⟨b6, 0, none⟩) ∧
   aQ.eval (.tmp 25) = .int .i64 (i : Int) ∧
   Touch (NoF) w wQ ∧
   ArenaAt wQ b Fp A most ∧
   wQ.heap[b1]? = some (.cells #[.int .u32 0, .int .u32 0, .int .u8 0, .int .u16 0, .int .u16 0] 31 (0, 0)) ∧
   wQ.heap[b6]? = some (.cells #[.int .u32 ((hmk v).1), .int .u32 ((hmk v).2.1), .int .u8 ((hmk v).2.2.1), .int .u16 ((hmk v).2.2.2.1), .int .u16 ((hmk v).2.2.2.2)] 31 (0, 0)) ∧
   (i + m = 104) ∧
   (Okn A g) ∧
   (g ≠ 0) ∧
   ((i : Int) ≤ lev A g) ∧
   (LS (fun u => den A u f) 104 (fun _ => false) = LS (fun u => den A u g) m v)) (fun nQ => nQ) _ ⟨0, 104, f, (fun _ => false), rfl, d42, z42, s44_0, (s46_1.trans (by first | rfl | (rw [h50_mk]; rfl))), s47_2, s49_6, s51_7, s53_8, (s54_25.trans (by first | rfl | (rw [h50_mk]; rfl))), x55, H_56, hb1_58, (hb6_60.trans (by first | rfl | (rw [h50_mk]; rfl))), by omega, hf, hf0, hl0.1, rfl⟩ ?_
  rintro nQ43 a43 w43 ⟨i, m, g, v, hmu43, d43, z43, s43_0, s43_1, s43_2, s43_6, s43_7, s43_8, s43_25, x43, H_57, hb1_59, hb6_61, him, hg, hg0, hgl, hLS⟩
  have hg' := hg; unfold Okn at hg'
  refine rgs mixed 60 [.eq (.bool (decide ((i : Int) < 104)))] [[(25, none)]] d43 z43 (by kernel_rfl) ⟨Ov rfl rfl fun _ _ T ⟨k25, _⟩ => ex_lss (k25.trans s43_25) rfl, trivial⟩ ?_
  intro a62 w62 d62 z62 t62 e62 q62
  refine wp_seq_k fun K63 hK63 => ?_
  by_cases c64 : (i : Int) < 104
  ·have y64 := decide_eq_true c64
   have s65_26 : a62.eval (.tmp 26) = .bool (decide ((i : Int) < 104)) := e62.1
   refine wp_cond_true (s65_26.trans (by rw [y64])) ?_
   refine wp_skip ?_
   repeat (with_reducible refine block_norm ?_)
   refine hK63 _ _ ?_
   refine wp_seq_k fun K66 hK66 => ?_
   refine wp_block ?_
   obtain ⟨m2, hm2⟩ : ∃ m2, m = m2 + 1 := ⟨m - 1, by omega⟩
   have s67_25 := ((q62 25 rfl).trans s43_25)
   refine rgs mixed 60 [.eq (.int .i64 (i : Int)), .eq (.int .i64 (i : Int))] [[(25, none)], [(27, some 0)]] d62 z62 (by kernel_rfl) ⟨Ov rfl rfl fun _ _ T ⟨k25, _⟩ => ex_move (k25.trans s67_25), Ov rfl rfl fun _ _ T ⟨k27, _⟩ => ex_assign k27, trivial⟩ ?_
   intro a68 w68 d68 z68 t68 e68 q68
   refine wp_seq ?_
   refine seq_begin ?_
   refine sp z68 rfl rfl (ex_move ((q68 0 rfl).trans ((q62 0 rfl).trans s43_0))) ?_; intro a69 u69 z69
   refine sp z69 rfl rfl (ex_move ((u69.past 1 rfl).trans ((q68 1 rfl).trans ((q62 1 rfl).trans s43_1)))) ?_; intro a70 u70 z70
   have H_72 := (ArenaAt.keep (ArenaAt.keep H_57 t62) t68)
   refine scx z70 rfl rfl (exl_call Try.func75 rfl rfl (cons_ops ((u70.past 29 rfl).trans (u69.here _ rfl)) (cons_ops (u70.here _ rfl) nil_ops))) (c_Node H_72 g hg) ?_; intro w71 a71 t71 u71 z71
   refine sp z71 rfl rfl (ex_move (u71.here _ rfl)) ?_; intro a73 u73 z73
   refine sp z73 rfl rfl (ex_extract (u73.here _ rfl) rfl) ?_; intro a74 u74 z74
   refine sp z74 rfl rfl (ex_extract ((u74.past 28 rfl).trans (u73.here _ rfl)) rfl) ?_; intro a75 u75 z75
   refine sp z75 rfl rfl (ex_extract ((u75.past 28 rfl).trans ((u74.past 28 rfl).trans (u73.here _ rfl))) rfl) ?_; intro a76 u76 z76
   refine sp z76 rfl rfl (ex_assign ((u76.past 32 rfl).trans ((u75.past 32 rfl).trans (u74.here _ rfl)))) ?_; intro a77 u77 z77
   refine sp z77 rfl rfl (ex_assign ((u77.past 33 rfl).trans ((u76.past 33 rfl).trans (u75.here _ rfl)))) ?_; intro a78 u78 z78
   refine sp z78 rfl rfl (ex_assign ((u78.past 34 rfl).trans ((u77.past 34 rfl).trans (u76.here _ rfl)))) ?_; intro a79 u79 z79
   have d80 := (u79.defs.trans (u78.defs.trans (u77.defs.trans (u76.defs.trans (u75.defs.trans (u74.defs.trans (u73.defs.trans (u71.defs.trans (u70.defs.trans (u69.defs.trans d68))))))))))
   refine seq_end ?_
   refine then_norm ?_
   refine wp_seq_k fun K81 hK81 => ?_
   have s82_10 : a77.eval (.tmp 10) = .int .i64 ((nodeV A g).1) := (u77.here _ rfl)
   have s83_10 := ((u79.past 10 rfl).trans ((u78.past 10 rfl).trans s82_10))
   have s84_9 : a68.eval (.tmp 9) = .int .i64 (i : Int) := e68.2.1
   have p86 := fr4 u71.past u73.past u74.past u75.past
   have p87 := fr4 u76.past u77.past u78.past u79.past
   have s85_9 := ((p87 9 rfl).trans ((p86 9 rfl).trans ((u70.past 9 rfl).trans ((u69.past 9 rfl).trans s84_9))))
   refine rgs mixed 60 [.eq (.int .i64 ((nodeV A g).1)), .eq (.int .i64 (i : Int)), .eq (.bool (decide (((nodeV A g).1) ≠ (i : Int))))] [[(10, none)], [(9, none)], [(35, some 0), (36, some 1)]] d80 z79 (by kernel_rfl) ⟨Ov rfl rfl fun _ _ T ⟨k10, _⟩ => ex_move (k10.trans s83_10), Ov rfl rfl fun _ _ T ⟨k9, _⟩ => ex_move (k9.trans s85_9), Ov rfl rfl fun _ _ T ⟨k35, k36, _⟩ => ex_neq k35 k36, trivial⟩ ?_
   intro a88 w88 d88 z88 t88 e88 q88
   have p90 := fr4 q62 q68 u69.past u70.past
   have s89_0 := ((q88 0 rfl).trans ((p87 0 rfl).trans ((p86 0 rfl).trans ((p90 0 rfl).trans s43_0))))
   have s91_1 := ((q88 1 rfl).trans ((p87 1 rfl).trans ((p86 1 rfl).trans ((p90 1 rfl).trans s43_1))))
   have s92_2 := ((q88 2 rfl).trans ((p87 2 rfl).trans ((p86 2 rfl).trans ((p90 2 rfl).trans s43_2))))
   have s93_6 := ((q88 6 rfl).trans ((p87 6 rfl).trans ((p86 6 rfl).trans ((p90 6 rfl).trans s43_6))))
   have s94_7 := ((q88 7 rfl).trans ((p87 7 rfl).trans ((p86 7 rfl).trans ((p90 7 rfl).trans s43_7))))
   have s95_8 := ((q88 8 rfl).trans ((p87 8 rfl).trans ((p86 8 rfl).trans ((p90 8 rfl).trans s43_8))))
   have s96_25 := ((q88 25 rfl).trans ((p87 25 rfl).trans ((p86 25 rfl).trans ((u70.past 25 rfl).trans ((u69.past 25 rfl).trans ((q68 25 rfl).trans s67_25))))))
   have hb1_97 := (Ext.keep t88 (Ext.keep t71 (Ext.keep t68 (Ext.keep t62 hb1_59))))
   have hb6_98 := (Ext.keep t88 (Ext.keep t71 (Ext.keep t68 (Ext.keep t62 hb6_61))))
   have x99 := (Touch.trans (Touch.trans (Touch.trans (Touch.trans x43 (Ext.touch t62)) (Ext.touch t68)) (Ext.touch t71)) (Ext.touch t88))
   by_cases c100 : ((nodeV A g).1) ≠ (i : Int)
   ·have y100 := decide_eq_true c100
    have s101_37 : a88.eval (.tmp 37) = .bool (decide (((nodeV A g).1) ≠ (i : Int))) := e88.2.2.1
    refine wp_cond_true (s101_37.trans (by rw [y100])) ?_
    refine wp_seq ?_
    refine seq_begin ?_
    refine sp z88 rfl rfl (ex_loadAgg (cs := [.int .u32 ((hmk v).1), .int .u32 ((hmk v).2.1), .int .u8 ((hmk v).2.2.1), .int .u16 ((hmk v).2.2.2.1), .int .u16 ((hmk v).2.2.2.2)]) s95_8 (Try.isAgg31 _) (Try.sizeOf31 _) (cells_of (off := 0) hb6_98 rfl)) ?_; intro a102 u102 z102
    refine sp z102 rfl rfl (ex_move ((u102.past 9 rfl).trans ((q88 9 rfl).trans s85_9))) ?_; intro a103 u103 z103
    refine sp z103 rfl rfl (ex_move ((u103.past 2 rfl).trans ((u102.past 2 rfl).trans s92_2))) ?_; intro a104 u104 z104
    refine scx z104 rfl rfl (exl_call Try.func113 rfl rfl (cons_ops ((u104.past 38 rfl).trans ((u103.past 38 rfl).trans (u102.here _ rfl))) (cons_ops ((u104.past 39 rfl).trans (u103.here _ rfl)) (cons_ops (u104.here _ rfl) nil_ops)))) (c_withV (v := v) (i := (i : Int)) (on := false) (by omega) (by omega) _) ?_; intro w105 a105 t105 u105 z105
    have hb6_107 := (Ext.keep t105 hb6_98)
    refine sstore (cs := [.int .u32 ((hmk v).1), .int .u32 ((hmk v).2.1), .int .u8 ((hmk v).2.2.1), .int .u16 ((hmk v).2.2.2.1), .int .u16 ((hmk v).2.2.2.2)]) (vs := [.int .u32 ((hmk (upd v (i : Int) false)).1), .int .u32 ((hmk (upd v (i : Int) false)).2.1), .int .u8 ((hmk (upd v (i : Int) false)).2.2.1), .int .u16 ((hmk (upd v (i : Int) false)).2.2.2.1), .int .u16 ((hmk (upd v (i : Int) false)).2.2.2.2)]) (cs' := [.int .u32 ((hmk (upd v (i : Int) false)).1), .int .u32 ((hmk (upd v (i : Int) false)).2.1), .int .u8 ((hmk (upd v (i : Int) false)).2.2.1), .int .u16 ((hmk (upd v (i : Int) false)).2.2.2.1), .int .u16 ((hmk (upd v (i : Int) false)).2.2.2.2)]) z105 rfl ((u105.past 8 rfl).trans ((u104.past 8 rfl).trans ((u103.past 8 rfl).trans ((u102.past 8 rfl).trans s95_8)))) (u105.here _ rfl) hb6_107 (Try.sizeOf31 _) rfl rfl (by decide) (Nat.le_of_ble_eq_true rfl) rfl rfl ?_; intro w106 a106 t106 u106 z106
    have d108 := (u106.defs.trans (u105.defs.trans (u104.defs.trans (u103.defs.trans (u102.defs.trans d88)))))
    refine seq_end ?_
    refine then_norm ?_
    refine wp_exit ?_
    repeat (first | (with_reducible refine then_exit ?_) | (with_reducible refine block_here ?_) | (with_reducible refine block_past rfl ?_))
    refine hK66 _ _ ?_
    have s109_25 := ((u106.past 25 rfl).trans ((u105.past 25 rfl).trans ((u104.past 25 rfl).trans ((u103.past 25 rfl).trans ((u102.past 25 rfl).trans s96_25)))))
    refine rg mixed 60 [.eq (.int .i64 ((i : Int) + 1)), .eq (.int .i64 ((i : Int) + 1))] [[(25, none)], [(58, some 0)]] d108 z106 (by kernel_rfl) ⟨Ov rfl rfl fun _ _ T ⟨k25, _⟩ => ex_add64 (k25.trans s109_25) rfl (by omega), Ov rfl rfl fun _ _ T ⟨k58, _⟩ => ex_move k58, trivial⟩ ?_
    intro a110 w110 d110 z110 t110 e110 q110
    repeat (with_reducible refine block_norm ?_)
    have hdn := LS_down hW (n := m2) (by omega) (v := v) hg (by omega) hg0
    rw [show (103 - (m2 : Int)) = (i : Int) by omega] at hdn
    have hl1 := lev_le hW hg
    have hmv : LS (fun u => den A u g) (m2 + 1) v = LS (fun u => den A u g) m2 (upd v (i : Int) false) := by
     rw [hdn, if_neg (by rw [← nodeV_1 hW hg]; omega)]
    have hng : Okn A g ∧ g ≠ 0 ∧ ((i + 1 : Nat) : Int) ≤ lev A g := ⟨hg, hg0, by have hh := nodeV_1 hW hg; omega⟩
    have s111_0 := ((q110 0 rfl).trans ((u106.past 0 rfl).trans ((u105.past 0 rfl).trans ((u104.past 0 rfl).trans ((u103.past 0 rfl).trans ((u102.past 0 rfl).trans s89_0))))))
    have s112_1 := ((q110 1 rfl).trans ((u106.past 1 rfl).trans ((u105.past 1 rfl).trans ((u104.past 1 rfl).trans ((u103.past 1 rfl).trans ((u102.past 1 rfl).trans s91_1))))))
    have s113_2 := ((q110 2 rfl).trans ((u106.past 2 rfl).trans ((u105.past 2 rfl).trans ((u104.past 2 rfl).trans ((u103.past 2 rfl).trans ((u102.past 2 rfl).trans s92_2))))))
    have s114_6 := ((q110 6 rfl).trans ((u106.past 6 rfl).trans ((u105.past 6 rfl).trans ((u104.past 6 rfl).trans ((u103.past 6 rfl).trans ((u102.past 6 rfl).trans s93_6))))))
    have s115_7 := ((q110 7 rfl).trans ((u106.past 7 rfl).trans ((u105.past 7 rfl).trans ((u104.past 7 rfl).trans ((u103.past 7 rfl).trans ((u102.past 7 rfl).trans s94_7))))))
    have s116_8 := ((q110 8 rfl).trans ((u106.past 8 rfl).trans ((u105.past 8 rfl).trans ((u104.past 8 rfl).trans ((u103.past 8 rfl).trans ((u102.past 8 rfl).trans s95_8))))))
    have s117_25 : a110.eval (.tmp 25) = .int .i64 ((i : Int) + 1) := e110.2.1
    have x118 := (Touch.trans (Touch.turn (Touch.trans x99 (Ext.touch t105)) t106 (Or.inr yb6_10)) (Ext.touch t110))
    have H_119 := (ArenaAt.keep (ArenaAt.turn (ArenaAt.keep (ArenaAt.keep (ArenaAt.keep H_72 t71) t88) t105) t106 o8) t110)
    have hb1_120 := (Ext.keep t110 (Turn.keep t106 (Ext.keep t105 hb1_97) n7_b1_b6))
    have t106.here_121 := (Ext.keep t110 t106.here)
    refine then_norm ?_
    refine ⟨_, ⟨i + 1, m2, g, (upd v (i : Int) false), rfl, d110, z110, s111_0, s112_1, s113_2, s114_6, s115_7, s116_8, (s117_25.trans (by first | rfl | (rw [h50_mk]; rfl))), x118, H_119, hb1_120, t106.here_121, by omega, hng.1, hng.2.1, hng.2.2, (by rw [hLS, hm2]; exact hmv)⟩, ?_⟩; (show _ < _); rw [hmu43]; exact by omega
   ·have y100 := decide_eq_false c100
    have s122_37 : a88.eval (.tmp 37) = .bool (decide (((nodeV A g).1) ≠ (i : Int))) := e88.2.2.1
    refine wp_cond_false (s122_37.trans (by rw [y100])) ?_
    refine wp_skip ?_
    repeat (with_reducible refine block_norm ?_)
    refine hK81 _ _ ?_
    have s123_11 : a78.eval (.tmp 11) = .int .i64 ((nodeV A g).2.1) := (u78.here _ rfl)
    have s124_11 := ((q88 11 rfl).trans ((u79.past 11 rfl).trans s123_11))
    have s125_12 : a79.eval (.tmp 12) = .int .i64 ((nodeV A g).2.2) := (u79.here _ rfl)
    have s126_12 := ((q88 12 rfl).trans s125_12)
    refine rgs mixed 60 [.eq (.int .i64 ((nodeV A g).2.1)), .eq (.int .i64 ((nodeV A g).2.2)), .eq (.int .i64 ((nodeV A g).2.1)), .eq (.int .i64 ((nodeV A g).2.2))] [[(11, none)], [(12, none)], [(42, some 0)], [(43, some 1)]] d88 z88 (by kernel_rfl) ⟨Ov rfl rfl fun _ _ T ⟨k11, _⟩ => ex_move (k11.trans s124_11),
     Ov rfl rfl fun _ _ T ⟨k12, _⟩ => ex_move (k12.trans s126_12),
     Ov rfl rfl fun _ _ T ⟨k42, _⟩ => ex_assign k42,
     Ov rfl rfl fun _ _ T ⟨k43, _⟩ => ex_assign k43,
     trivial⟩ ?_
    intro a127 w127 d127 z127 t127 e127 q127
    refine wp_seq_k fun K128 hK128 => ?_
    have s129_2 := ((q127 2 rfl).trans s92_2)
    refine rgs mixed 60 [.eq (.bool false)] [[(2, none)]] d127 z127 (by kernel_rfl) ⟨Ov rfl rfl fun _ _ T ⟨k2, _⟩ => ex_move (k2.trans s129_2), trivial⟩ ?_
    intro a130 w130 d130 z130 t130 e130 q130
    have s131_44 : a130.eval (.tmp 44) = .bool false := e130.1
    refine wp_cond_false s131_44 ?_
    refine wp_skip ?_
    repeat (with_reducible refine block_norm ?_)
    refine hK128 _ _ ?_
    have s132_2 := ((q130 2 rfl).trans s129_2)
    refine rgs mixed 60 [.eq (.bool false), .eq (.bool false)] [[(2, none)], [(47, some 0)]] d130 z130 (by kernel_rfl) ⟨Ov rfl rfl fun _ _ T ⟨k2, _⟩ => ex_move (k2.trans s132_2), Ov rfl rfl fun _ _ T ⟨k47, _⟩ => ex_assign k47, trivial⟩ ?_
    intro a133 w133 d133 z133 t133 e133 q133
    refine wp_seq_k fun K134 hK134 => ?_
    have s135_13 : a127.eval (.tmp 13) = .int .i64 ((nodeV A g).2.1) := e127.2.2.1
    have s136_13 := ((q133 13 rfl).trans ((q130 13 rfl).trans s135_13))
    refine rgs mixed 60 [.eq (.int .i64 ((nodeV A g).2.1)), .eq (.int .i64 ((nodeV A g).2.1))] [[(13, none)], [(48, some 0)]] d133 z133 (by kernel_rfl) ⟨Ov rfl rfl fun _ _ T ⟨k13, _⟩ => ex_move (k13.trans s136_13), Ov rfl rfl fun _ _ T ⟨k48, _⟩ => ex_assign k48, trivial⟩ ?_
    intro a137 w137 d137 z137 t137 e137 q137
    have s138_1 : a137.eval (.tmp 1) = .int .i64 ((nodeV A g).2.1) := e137.2.1
    refine rgs mixed 60 [.eq (.int .i64 ((nodeV A g).2.1)), .eq (.bool (decide (((nodeV A g).2.1) = 0)))] [[(1, none)], [(49, some 0)]] d137 z137 (by kernel_rfl) ⟨Ov rfl rfl fun _ _ T ⟨k1, _⟩ => ex_move (k1.trans s138_1), Ov rfl rfl fun _ _ T ⟨k49, _⟩ => ex_eql k49 rfl, trivial⟩ ?_
    intro a139 w139 d139 z139 t139 e139 q139
    have s140_0 := ((q139 0 rfl).trans ((q137 0 rfl).trans ((q133 0 rfl).trans ((q130 0 rfl).trans ((q127 0 rfl).trans s89_0)))))
    have s141_2 := ((q139 2 rfl).trans ((q137 2 rfl).trans ((q133 2 rfl).trans s132_2)))
    have s142_6 := ((q139 6 rfl).trans ((q137 6 rfl).trans ((q133 6 rfl).trans ((q130 6 rfl).trans ((q127 6 rfl).trans s93_6)))))
    have s143_7 := ((q139 7 rfl).trans ((q137 7 rfl).trans ((q133 7 rfl).trans ((q130 7 rfl).trans ((q127 7 rfl).trans s94_7)))))
    have s144_8 := ((q139 8 rfl).trans ((q137 8 rfl).trans ((q133 8 rfl).trans ((q130 8 rfl).trans ((q127 8 rfl).trans s95_8)))))
    have s145_25 := ((q139 25 rfl).trans ((q137 25 rfl).trans ((q133 25 rfl).trans ((q130 25 rfl).trans ((q127 25 rfl).trans s96_25)))))
    have H_146 := (ArenaAt.keep (ArenaAt.keep (ArenaAt.keep (ArenaAt.keep (ArenaAt.keep (ArenaAt.keep (ArenaAt.keep H_72 t71) t88) t127) t130) t133) t137) t139)
    have hb1_147 := (Ext.keep t139 (Ext.keep t137 (Ext.keep t133 (Ext.keep t130 (Ext.keep t127 hb1_97)))))
    have hb6_148 := (Ext.keep t139 (Ext.keep t137 (Ext.keep t133 (Ext.keep t130 (Ext.keep t127 hb6_98)))))
    have x149 := (Touch.trans (Touch.trans (Touch.trans (Touch.trans (Touch.trans x99 (Ext.touch t127)) (Ext.touch t130)) (Ext.touch t133)) (Ext.touch t137)) (Ext.touch t139))
    by_cases c150 : ((nodeV A g).2.1) = 0
    ·have y150 := decide_eq_true c150
     have s151_50 : a139.eval (.tmp 50) = .bool (decide (((nodeV A g).2.1) = 0)) := e139.2.1
     refine wp_cond_true (s151_50.trans (by rw [y150])) ?_
     have s152_14 : a127.eval (.tmp 14) = .int .i64 ((nodeV A g).2.2) := e127.2.2.2.1
     have s153_14 := ((q139 14 rfl).trans ((q137 14 rfl).trans ((q133 14 rfl).trans ((q130 14 rfl).trans s152_14))))
     refine rg mixed 60 [.eq (.int .i64 ((nodeV A g).2.2)), .eq (.bool false), .eq (.bool true), .eq (.int .i64 ((nodeV A g).2.2)), .eq (.bool true)] [[(14, none)], [(2, none)], [(52, some 1)], [(51, some 0)], [(53, some 2)]] d139 z139 (by kernel_rfl) ⟨Ov rfl rfl fun _ _ T ⟨k14, _⟩ => ex_move (k14.trans s153_14),
      Ov rfl rfl fun _ _ T ⟨k2, _⟩ => ex_move (k2.trans s141_2),
      Ov rfl rfl fun _ _ T ⟨k52, _⟩ => ex_not k52,
      Ov rfl rfl fun _ _ T ⟨k51, _⟩ => ex_assign k51,
      Ov rfl rfl fun _ _ T ⟨k53, _⟩ => ex_assign k53,
      trivial⟩ ?_
     intro a154 w154 d154 z154 t154 e154 q154
     repeat (with_reducible refine block_norm ?_)
     refine hK134 _ _ ?_
     refine seq_begin ?_
     have hb6_156 := (Ext.keep t154 hb6_148)
     refine sp z154 rfl rfl (ex_loadAgg (cs := [.int .u32 ((hmk v).1), .int .u32 ((hmk v).2.1), .int .u8 ((hmk v).2.2.1), .int .u16 ((hmk v).2.2.2.1), .int .u16 ((hmk v).2.2.2.2)]) ((q154 8 rfl).trans s144_8) (Try.isAgg31 _) (Try.sizeOf31 _) (cells_of (off := 0) hb6_156 rfl)) ?_; intro a155 u155 z155
     have p158 := fr4 q88 q127 q130 q133
     have p159 := fr4 q137 q139 q154 u155.past
     refine sp z155 rfl rfl (ex_move ((p159 9 rfl).trans ((p158 9 rfl).trans s85_9))) ?_; intro a157 u157 z157
     refine sp z157 rfl rfl (ex_move ((u157.past 15 rfl).trans ((u155.past 15 rfl).trans e154.2.2.2.2.1))) ?_; intro a160 u160 z160
     refine scx z160 rfl rfl (exl_call Try.func113 rfl rfl (cons_ops ((u160.past 54 rfl).trans ((u157.past 54 rfl).trans (u155.here _ rfl))) (cons_ops ((u160.past 55 rfl).trans (u157.here _ rfl)) (cons_ops (u160.here _ rfl) nil_ops)))) (c_withV (v := v) (i := (i : Int)) (on := true) (by omega) (by omega) _) ?_; intro w161 a161 t161 u161 z161
     have hb6_163 := (Ext.keep t161 hb6_156)
     refine sstore (cs := [.int .u32 ((hmk v).1), .int .u32 ((hmk v).2.1), .int .u8 ((hmk v).2.2.1), .int .u16 ((hmk v).2.2.2.1), .int .u16 ((hmk v).2.2.2.2)]) (vs := [.int .u32 ((hmk (upd v (i : Int) true)).1), .int .u32 ((hmk (upd v (i : Int) true)).2.1), .int .u8 ((hmk (upd v (i : Int) true)).2.2.1), .int .u16 ((hmk (upd v (i : Int) true)).2.2.2.1), .int .u16 ((hmk (upd v (i : Int) true)).2.2.2.2)]) (cs' := [.int .u32 ((hmk (upd v (i : Int) true)).1), .int .u32 ((hmk (upd v (i : Int) true)).2.1), .int .u8 ((hmk (upd v (i : Int) true)).2.2.1), .int .u16 ((hmk (upd v (i : Int) true)).2.2.2.1), .int .u16 ((hmk (upd v (i : Int) true)).2.2.2.2)]) z161 rfl ((u161.past 8 rfl).trans ((u160.past 8 rfl).trans ((u157.past 8 rfl).trans ((u155.past 8 rfl).trans ((q154 8 rfl).trans s144_8))))) (u161.here _ rfl) hb6_163 (Try.sizeOf31 _) rfl rfl (by decide) (Nat.le_of_ble_eq_true rfl) rfl rfl ?_; intro w162 a162 t162 u162 z162
     have d164 := (u162.defs.trans (u161.defs.trans (u160.defs.trans (u157.defs.trans (u155.defs.trans d154)))))
     refine seq_end ?_
     repeat (with_reducible refine block_norm ?_)
     refine hK66 _ _ ?_
     have p166 := fr4 u157.past u160.past u161.past u162.past
     have s165_25 := ((p166 25 rfl).trans ((u155.past 25 rfl).trans ((q154 25 rfl).trans s145_25)))
     refine rg mixed 60 [.eq (.int .i64 ((i : Int) + 1)), .eq (.int .i64 ((i : Int) + 1))] [[(25, none)], [(58, some 0)]] d164 z162 (by kernel_rfl) ⟨Ov rfl rfl fun _ _ T ⟨k25, _⟩ => ex_add64 (k25.trans s165_25) rfl (by omega), Ov rfl rfl fun _ _ T ⟨k58, _⟩ => ex_move k58, trivial⟩ ?_
     intro a167 w167 d167 z167 t167 e167 q167
     repeat (with_reducible refine block_norm ?_)
     have hdn := LS_down hW (n := m2) (by omega) (v := v) hg (by omega) hg0
     rw [show (103 - (m2 : Int)) = (i : Int) by omega] at hdn
     have hl1 := lev_le hW hg
     have hmv : LS (fun u => den A u g) (m2 + 1) v = LS (fun u => den A u (nodeV A g).2.2) m2 (upd v (i : Int) true) := by
      rw [hdn, if_pos (by rw [← nodeV_1 hW hg]; omega)]
      have h2g : 2 ≤ g := by have hh := nodeV_1 hW hg; omega
      simp only [nodeV_2 h2g] at *
      first | (rw [if_pos (by omega)]; done) | (rw [if_neg (by omega)]; done) | (rw [if_pos (by omega)]; rfl) | (rw [if_neg (by omega)]; rfl)
     have hng : Okn A (nodeV A g).2.2 ∧ (nodeV A g).2.2 ≠ 0 ∧ ((i + 1 : Nat) : Int) ≤ lev A (nodeV A g).2.2 := by
      have h2g : 2 ≤ g := by have hh := nodeV_1 hW hg; omega
      have nf := node_of hW hg (by have hh := nodeV_1 hW hg; omega)
      have hh := nodeV_1 hW hg; have hnd := hW.node g h2g (by omega)
      simp only [nodeV_2 h2g] at *
      refine ⟨by first | exact nf.2.2.1 | exact nf.2.2.2.1, by omega, ?_⟩
      have a1 := nf.2.2.2.2.2.2.1; have a2 := nf.2.2.2.2.2.2.2; omega
     have s168_0 := ((q167 0 rfl).trans ((p166 0 rfl).trans ((u155.past 0 rfl).trans ((q154 0 rfl).trans s140_0))))
     have s169_1 : a154.eval (.tmp 1) = .int .i64 ((nodeV A g).2.2) := e154.2.2.2.1
     have s170_1 := ((q167 1 rfl).trans ((p166 1 rfl).trans ((u155.past 1 rfl).trans s169_1)))
     have s171_2 := ((q167 2 rfl).trans ((p166 2 rfl).trans ((u155.past 2 rfl).trans ((q154 2 rfl).trans s141_2))))
     have s172_6 := ((q167 6 rfl).trans ((p166 6 rfl).trans ((u155.past 6 rfl).trans ((q154 6 rfl).trans s142_6))))
     have s173_7 := ((q167 7 rfl).trans ((p166 7 rfl).trans ((u155.past 7 rfl).trans ((q154 7 rfl).trans s143_7))))
     have s174_8 := ((q167 8 rfl).trans ((p166 8 rfl).trans ((u155.past 8 rfl).trans ((q154 8 rfl).trans s144_8))))
     have s175_25 : a167.eval (.tmp 25) = .int .i64 ((i : Int) + 1) := e167.2.1
     have x176 := (Touch.trans (Touch.turn (Touch.trans (Touch.trans x149 (Ext.touch t154)) (Ext.touch t161)) t162 (Or.inr yb6_10)) (Ext.touch t167))
     have H_177 := (ArenaAt.keep (ArenaAt.turn (ArenaAt.keep (ArenaAt.keep H_146 t154) t161) t162 o8) t167)
     have hb1_178 := (Ext.keep t167 (Turn.keep t162 (Ext.keep t161 (Ext.keep t154 hb1_147)) n7_b1_b6))
     have t162.here_179 := (Ext.keep t167 t162.here)
     refine then_norm ?_
     refine ⟨_, ⟨i + 1, m2, (nodeV A g).2.2, (upd v (i : Int) true), rfl, d167, z167, s168_0, s170_1, s171_2, s172_6, s173_7, s174_8, (s175_25.trans (by first | rfl | (rw [h50_mk]; rfl))), x176, H_177, hb1_178, t162.here_179, by omega, hng.1, hng.2.1, hng.2.2, (by rw [hLS, hm2]; exact hmv)⟩, ?_⟩; (show _ < _); rw [hmu43]; exact by omega
    ·have y150 := decide_eq_false c150
     have s180_50 : a139.eval (.tmp 50) = .bool (decide (((nodeV A g).2.1) = 0)) := e139.2.1
     refine wp_cond_false (s180_50.trans (by rw [y150])) ?_
     refine wp_skip ?_
     repeat (with_reducible refine block_norm ?_)
     refine hK134 _ _ ?_
     refine seq_begin ?_
     refine sp z139 rfl rfl (ex_loadAgg (cs := [.int .u32 ((hmk v).1), .int .u32 ((hmk v).2.1), .int .u8 ((hmk v).2.2.1), .int .u16 ((hmk v).2.2.2.1), .int .u16 ((hmk v).2.2.2.2)]) s144_8 (Try.isAgg31 _) (Try.sizeOf31 _) (cells_of (off := 0) hb6_148 rfl)) ?_; intro a181 u181 z181
     have p183 := fr4 q88 q127 q130 q133
     refine sp z181 rfl rfl (ex_move ((u181.past 9 rfl).trans ((q139 9 rfl).trans ((q137 9 rfl).trans ((p183 9 rfl).trans s85_9))))) ?_; intro a182 u182 z182
     have p185 := fr4 q137 q139 u181.past u182.past
     refine sp z182 rfl rfl (ex_move ((p185 15 rfl).trans e133.2.1)) ?_; intro a184 u184 z184
     refine scx z184 rfl rfl (exl_call Try.func113 rfl rfl (cons_ops ((u184.past 54 rfl).trans ((u182.past 54 rfl).trans (u181.here _ rfl))) (cons_ops ((u184.past 55 rfl).trans (u182.here _ rfl)) (cons_ops (u184.here _ rfl) nil_ops)))) (c_withV (v := v) (i := (i : Int)) (on := false) (by omega) (by omega) _) ?_; intro w186 a186 t186 u186 z186
     have hb6_188 := (Ext.keep t186 hb6_148)
     refine sstore (cs := [.int .u32 ((hmk v).1), .int .u32 ((hmk v).2.1), .int .u8 ((hmk v).2.2.1), .int .u16 ((hmk v).2.2.2.1), .int .u16 ((hmk v).2.2.2.2)]) (vs := [.int .u32 ((hmk (upd v (i : Int) false)).1), .int .u32 ((hmk (upd v (i : Int) false)).2.1), .int .u8 ((hmk (upd v (i : Int) false)).2.2.1), .int .u16 ((hmk (upd v (i : Int) false)).2.2.2.1), .int .u16 ((hmk (upd v (i : Int) false)).2.2.2.2)]) (cs' := [.int .u32 ((hmk (upd v (i : Int) false)).1), .int .u32 ((hmk (upd v (i : Int) false)).2.1), .int .u8 ((hmk (upd v (i : Int) false)).2.2.1), .int .u16 ((hmk (upd v (i : Int) false)).2.2.2.1), .int .u16 ((hmk (upd v (i : Int) false)).2.2.2.2)]) z186 rfl ((u186.past 8 rfl).trans ((u184.past 8 rfl).trans ((u182.past 8 rfl).trans ((u181.past 8 rfl).trans s144_8)))) (u186.here _ rfl) hb6_188 (Try.sizeOf31 _) rfl rfl (by decide) (Nat.le_of_ble_eq_true rfl) rfl rfl ?_; intro w187 a187 t187 u187 z187
     have d189 := (u187.defs.trans (u186.defs.trans (u184.defs.trans (u182.defs.trans (u181.defs.trans d139)))))
     refine seq_end ?_
     repeat (with_reducible refine block_norm ?_)
     refine hK66 _ _ ?_
     have s190_25 := ((u187.past 25 rfl).trans ((u186.past 25 rfl).trans ((u184.past 25 rfl).trans ((u182.past 25 rfl).trans ((u181.past 25 rfl).trans s145_25)))))
     refine rg mixed 60 [.eq (.int .i64 ((i : Int) + 1)), .eq (.int .i64 ((i : Int) + 1))] [[(25, none)], [(58, some 0)]] d189 z187 (by kernel_rfl) ⟨Ov rfl rfl fun _ _ T ⟨k25, _⟩ => ex_add64 (k25.trans s190_25) rfl (by omega), Ov rfl rfl fun _ _ T ⟨k58, _⟩ => ex_move k58, trivial⟩ ?_
     intro a191 w191 d191 z191 t191 e191 q191
     repeat (with_reducible refine block_norm ?_)
     have hdn := LS_down hW (n := m2) (by omega) (v := v) hg (by omega) hg0
     rw [show (103 - (m2 : Int)) = (i : Int) by omega] at hdn
     have hl1 := lev_le hW hg
     have hmv : LS (fun u => den A u g) (m2 + 1) v = LS (fun u => den A u (nodeV A g).2.1) m2 (upd v (i : Int) false) := by
      rw [hdn, if_pos (by rw [← nodeV_1 hW hg]; omega)]
      have h2g : 2 ≤ g := by have hh := nodeV_1 hW hg; omega
      simp only [nodeV_2 h2g] at *
      first | (rw [if_pos (by omega)]; done) | (rw [if_neg (by omega)]; done) | (rw [if_pos (by omega)]; rfl) | (rw [if_neg (by omega)]; rfl)
     have hng : Okn A (nodeV A g).2.1 ∧ (nodeV A g).2.1 ≠ 0 ∧ ((i + 1 : Nat) : Int) ≤ lev A (nodeV A g).2.1 := by
      have h2g : 2 ≤ g := by have hh := nodeV_1 hW hg; omega
      have nf := node_of hW hg (by have hh := nodeV_1 hW hg; omega)
      have hh := nodeV_1 hW hg; have hnd := hW.node g h2g (by omega)
      simp only [nodeV_2 h2g] at *
      refine ⟨by first | exact nf.2.2.1 | exact nf.2.2.2.1, by omega, ?_⟩
      have a1 := nf.2.2.2.2.2.2.1; have a2 := nf.2.2.2.2.2.2.2; omega
     have p193 := fr4 u184.past u186.past u187.past q191
     have s192_0 := ((p193 0 rfl).trans ((u182.past 0 rfl).trans ((u181.past 0 rfl).trans s140_0)))
     have s194_1 := ((p193 1 rfl).trans ((u182.past 1 rfl).trans ((u181.past 1 rfl).trans ((q139 1 rfl).trans s138_1))))
     have s195_2 := ((p193 2 rfl).trans ((u182.past 2 rfl).trans ((u181.past 2 rfl).trans s141_2)))
     have s196_6 := ((p193 6 rfl).trans ((u182.past 6 rfl).trans ((u181.past 6 rfl).trans s142_6)))
     have s197_7 := ((p193 7 rfl).trans ((u182.past 7 rfl).trans ((u181.past 7 rfl).trans s143_7)))
     have s198_8 := ((p193 8 rfl).trans ((u182.past 8 rfl).trans ((u181.past 8 rfl).trans s144_8)))
     have s199_25 : a191.eval (.tmp 25) = .int .i64 ((i : Int) + 1) := e191.2.1
     have x200 := (Touch.trans (Touch.turn (Touch.trans x149 (Ext.touch t186)) t187 (Or.inr yb6_10)) (Ext.touch t191))
     have H_201 := (ArenaAt.keep (ArenaAt.turn (ArenaAt.keep H_146 t186) t187 o8) t191)
     have hb1_202 := (Ext.keep t191 (Turn.keep t187 (Ext.keep t186 hb1_147) n7_b1_b6))
     have t187.here_203 := (Ext.keep t191 t187.here)
     refine then_norm ?_
     refine ⟨_, ⟨i + 1, m2, (nodeV A g).2.1, (upd v (i : Int) false), rfl, d191, z191, s192_0, s194_1, s195_2, s196_6, s197_7, s198_8, (s199_25.trans (by first | rfl | (rw [h50_mk]; rfl))), x200, H_201, hb1_202, t187.here_203, by omega, hng.1, hng.2.1, hng.2.2, (by rw [hLS, hm2]; exact hmv)⟩, ?_⟩; (show _ < _); rw [hmu43]; exact by omega
  ·have y64 := decide_eq_false c64
   have s204_26 : a62.eval (.tmp 26) = .bool (decide ((i : Int) < 104)) := e62.1
   refine wp_cond_false (s204_26.trans (by rw [y64])) ?_
   refine wp_exit ?_
   repeat (first | (with_reducible refine then_exit ?_) | (with_reducible refine block_here ?_) | (with_reducible refine block_past rfl ?_))
   refine hK41 _ _ ?_
   refine wp_seq ?_
   refine seq_begin ?_
   have hb6_206 := (Ext.keep t62 hb6_61)
   refine sp z62 rfl rfl (ex_loadAgg (cs := [.int .u32 ((hmk v).1), .int .u32 ((hmk v).2.1), .int .u8 ((hmk v).2.2.1), .int .u16 ((hmk v).2.2.2.1), .int .u16 ((hmk v).2.2.2.2)]) ((q62 8 rfl).trans s43_8) (Try.isAgg31 _) (Try.sizeOf31 _) (cells_of (off := 0) hb6_206 rfl)) ?_; intro a205 u205 z205
   have hb1_208 := (Ext.keep t62 hb1_59)
   refine sstore (cs := [.int .u32 0, .int .u32 0, .int .u8 0, .int .u16 0, .int .u16 0]) (vs := [.int .u32 ((hmk v).1), .int .u32 ((hmk v).2.1), .int .u8 ((hmk v).2.2.1), .int .u16 ((hmk v).2.2.2.1), .int .u16 ((hmk v).2.2.2.2)]) (cs' := [.int .u32 ((hmk v).1), .int .u32 ((hmk v).2.1), .int .u8 ((hmk v).2.2.1), .int .u16 ((hmk v).2.2.2.1), .int .u16 ((hmk v).2.2.2.2)]) z205 rfl ((u205.past 6 rfl).trans ((q62 6 rfl).trans s43_6)) (u205.here _ rfl) hb1_208 (Try.sizeOf31 _) rfl rfl (by decide) (Nat.le_of_ble_eq_true rfl) rfl rfl ?_; intro w207 a207 t207 u207 z207
   refine sp z207 rfl rfl (ex_assign rfl) ?_; intro a209 u209 z209
   have d210 := (u209.defs.trans (u207.defs.trans (u205.defs.trans d62)))
   refine seq_end ?_
   refine then_norm ?_
   refine wp_ret ?_
   have p212 := fr4 q62 u205.past u207.past u209.past
   have s211_6 := ((p212 6 rfl).trans s43_6)
   have s213_7 : a209.eval (.tmp 7) = .bool true := (u209.here _ rfl)
   repeat (first | (with_reducible refine then_ret ?_) | (with_reducible refine block_ret ?_))
   refine rett (rs := [.cell 6 31, .tmp 7]) (vs := [.agg #[.int .u32 ((hmk v).1), .int .u32 ((hmk v).2.1), .int .u8 ((hmk v).2.2.1), .int .u16 ((hmk v).2.2.2.1), .int .u16 ((hmk v).2.2.2.2)], .bool true]) Try.results78 ⟨⟨_, s211_6, run_loadVarA (cs := [.int .u32 ((hmk v).1), .int .u32 ((hmk v).2.1), .int .u8 ((hmk v).2.2.1), .int .u16 ((hmk v).2.2.2.1), .int .u16 ((hmk v).2.2.2.2)]) (Try.isAgg31 _) (Try.sizeOf31 _) (cells_of (off := 0) t207.here rfl)⟩, ⟨s213_7, trivial⟩⟩ (by simp) d210 ?_
   have x214 := (Touch.turn (Touch.trans x43 (Ext.touch t62)) t207 (Or.inr yb1_3))
   have em : m = 0 := by omega
   subst em
   have hl1 := lev_le hW hg
   have e1 : g = 1 := by have := hl1.2.2.1 (by omega); omega
   subst e1
   have ev : leastV A f = hmk v := by unfold leastV; rw [if_neg hf0, hLS]; simp [LS, den_one]
   exact ⟨by rw [ev, decide_eq_true hf0], (x214).ext⟩

set_option maxRecDepth 100000 in
set_option maxHeartbeats 4000000 in
theorem c_Least {w : World} {b : Nat} {Fp : Nat → Prop} {A : List N3} {most : Int} (H : ArenaAt w b Fp A most) (hW : Wf A) (f : Int) (hf : Okn A f) : Calls Try.prog 25 #[.pointer (some ⟨b, 0, none⟩), .int .i64 f] w fun e w' => e = .returned (.tuple #[.agg #[.int .u32 ((leastV A f).1), .int .u32 ((leastV A f).2.1), .int .u8 ((leastV A f).2.2.1), .int .u16 ((leastV A f).2.2.2.1), .int .u16 ((leastV A f).2.2.2.2)], .bool (decide (f ≠ 0))]) ∧ Ext w w' := by
 have hf' := hf; unfold Okn at hf'
 refine enter 11 Try.ntmps25 Try.func25 rfl (Nat.le_of_ble_eq_true rfl) fun a0 d0 z0 hargs => ?_
 have s0_0 : a0.eval (.tmp 0) = .pointer (some ⟨b, 0, none⟩) := hargs 0 _ rfl
 have s0_1 : a0.eval (.tmp 1) = .int .i64 f := hargs 1 _ rfl
 have x0 := Touch.refl NoF w
 refine wp_seq ?_
 refine seq_begin ?_
 refine salloc z0 rfl (zv_31 _) ?_; intro b1 w1 a1 t1 g1 hb1 u1 z1
 have o2 : ¬ Fp b1 := fun hQ => by have := ArenaAt.lt H hQ; omega
 have yb1_3 := Nat.le_trans (Touch.size x0) g1
 refine sp z1 rfl rfl (ex_assign rfl) ?_; intro a4 u4 z4
 have d5 := (u4.defs.trans (u1.defs.trans d0))
 refine seq_end ?_
 refine then_norm ?_
 refine wp_seq ?_
 refine seq_begin ?_
 refine sp z4 rfl rfl (ex_move ((u4.past 0 rfl).trans ((u1.past 0 rfl).trans s0_0))) ?_; intro a6 u6 z6
 refine sp z6 rfl rfl (ex_move ((u6.past 1 rfl).trans ((u4.past 1 rfl).trans ((u1.past 1 rfl).trans s0_1)))) ?_; intro a7 u7 z7
 have H_9 := (ArenaAt.keep H t1)
 refine scx z7 rfl rfl (exl_call Try.func78 rfl rfl (cons_ops ((u7.past 6 rfl).trans (u6.here _ rfl)) (cons_ops (u7.here _ rfl) (cons_ops rfl nil_ops)))) (c_walk H_9 hW f (by assumption)) ?_; intro w8 a8 t8 u8 z8
 refine sp z8 rfl rfl (ex_extract (u8.here _ rfl) rfl) ?_; intro a10 u10 z10
 refine sp z10 rfl rfl (ex_extract ((u10.past 8 rfl).trans (u8.here _ rfl)) rfl) ?_; intro a11 u11 z11
 have hb1_13 := (Ext.keep t8 hb1)
 refine sstore (cs := [.int .u32 0, .int .u32 0, .int .u8 0, .int .u16 0, .int .u16 0]) (vs := [.int .u32 ((leastV A f).1), .int .u32 ((leastV A f).2.1), .int .u8 ((leastV A f).2.2.1), .int .u16 ((leastV A f).2.2.2.1), .int .u16 ((leastV A f).2.2.2.2)]) (cs' := [.int .u32 ((leastV A f).1), .int .u32 ((leastV A f).2.1), .int .u8 ((leastV A f).2.2.1), .int .u16 ((leastV A f).2.2.2.1), .int .u16 ((leastV A f).2.2.2.2)]) z11 rfl ((u11.past 4 rfl).trans ((u10.past 4 rfl).trans ((u8.past 4 rfl).trans ((u7.past 4 rfl).trans ((u6.past 4 rfl).trans ((u4.past 4 rfl).trans (u1.here _ rfl))))))) ((u11.past 9 rfl).trans (u10.here _ rfl)) hb1_13 (Try.sizeOf31 _) rfl rfl (by decide) (Nat.le_of_ble_eq_true rfl) rfl rfl ?_; intro w12 a12 t12 u12 z12
 refine sp z12 rfl rfl (ex_assign ((u12.past 10 rfl).trans (u11.here _ rfl))) ?_; intro a14 u14 z14
 have d15 := (u14.defs.trans (u12.defs.trans (u11.defs.trans (u10.defs.trans (u8.defs.trans (u7.defs.trans (u6.defs.trans d5)))))))
 refine seq_end ?_
 refine then_norm ?_
 refine wp_ret ?_
 have s16_4 : a1.eval (.tmp 4) = .pointer (some ⟨b1, 0, none⟩) := (u1.here _ rfl)
 have p18 := fr4 u8.past u10.past u11.past u12.past
 have s17_4 := ((u14.past 4 rfl).trans ((p18 4 rfl).trans ((u7.past 4 rfl).trans ((u6.past 4 rfl).trans ((u4.past 4 rfl).trans s16_4)))))
 have s19_5 : a14.eval (.tmp 5) = .bool (decide (f ≠ 0)) := (u14.here _ rfl)
 repeat (first | (with_reducible refine then_ret ?_) | (with_reducible refine block_ret ?_))
 refine rett (rs := [.cell 4 31, .tmp 5]) (vs := [.agg #[.int .u32 ((leastV A f).1), .int .u32 ((leastV A f).2.1), .int .u8 ((leastV A f).2.2.1), .int .u16 ((leastV A f).2.2.2.1), .int .u16 ((leastV A f).2.2.2.2)], .bool (decide (f ≠ 0))]) Try.results25 ⟨⟨_, s17_4, run_loadVarA (cs := [.int .u32 ((leastV A f).1), .int .u32 ((leastV A f).2.1), .int .u8 ((leastV A f).2.2.1), .int .u16 ((leastV A f).2.2.2.1), .int .u16 ((leastV A f).2.2.2.2)]) (Try.isAgg31 _) (Try.sizeOf31 _) (cells_of (off := 0) t12.here rfl)⟩, ⟨s19_5, trivial⟩⟩ (by simp) d15 ?_
 have x20 := (Touch.turn (Touch.trans (Touch.trans x0 (Ext.touch t1)) (Ext.touch t8)) t12 (Or.inr yb1_3))
 exact ⟨rfl, (x20).ext⟩

end Go.Proofs.Yticodddigaiipaa
