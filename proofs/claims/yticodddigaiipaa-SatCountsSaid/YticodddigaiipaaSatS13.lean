/-
 Contracts of functions of the given program, each proved by a walk through its code: what a call answers, and what it leaves of memory; conditions: those ahead of each theorem's colon.
-/
import Derived.Test.YticodddigaiipaaSatL17
set_option linter.unusedVariables false
set_option linter.unusedSimpArgs false
namespace Go.Proofs.Yticodddigaiipaa
open Go.RowKit
theorem bd_31_0Iu32 (x0 : Int) (w : World) : (Instr.build 31 #[(0, .int .u32 x0)]).run Try.prog w = .ok (.agg #[.int .u32 x0, .int .u32 0, .int .u8 0, .int .u16 0, .int .u16 0]) w := by kernel_rfl
theorem sh_31 : Try.prog.stoodInHeld 31 = false := by kernel_rfl
theorem eq_31 (d : Nat) (w : World) (x0 y0 : Int) (x1 y1 : Int) (x2 y2 : Int) (x3 y3 : Int) (x4 y4 : Int) : (Op.equalIn (d + 2) 31 (.agg #[.int .u32 x0, .int .u32 x1, .int .u8 x2, .int .u16 x3, .int .u16 x4]) (.agg #[.int .u32 y0, .int .u32 y1, .int .u8 y2, .int .u16 y3, .int .u16 y4])).run Try.prog w = .ok (x0 == y0 && (x1 == y1 && (x2 == y2 && (x3 == y3 && (x4 == y4 && true))))) w := by
 refine eqs_of Try.underlying31 sh_31 ?_
 refine eqs_cons rfl (part1 (Try.isAgg22 w) rfl) (part1 (Try.isAgg22 w) rfl) (eqs_int (d := d + 0) Try.underlying22) ?_
 refine eqs_cons rfl (part1 (Try.isAgg22 w) rfl) (part1 (Try.isAgg22 w) rfl) (eqs_int (d := d + 0) Try.underlying22) ?_
 refine eqs_cons rfl (part1 (Try.isAgg5 w) rfl) (part1 (Try.isAgg5 w) rfl) (eqs_int (d := d + 0) Try.underlying5) ?_
 refine eqs_cons rfl (part1 (Try.isAgg25 w) rfl) (part1 (Try.isAgg25 w) rfl) (eqs_int (d := d + 0) Try.underlying25) ?_
 refine eqs_cons rfl (part1 (Try.isAgg25 w) rfl) (part1 (Try.isAgg25 w) rfl) (eqs_int (d := d + 0) Try.underlying25) ?_
 exact eqs_nil
theorem eg_31 : Try.prog.eqGuardType Try.prog.depth 31 = false := by kernel_rfl
theorem c_wpow103 (w : World) : Calls Try.prog 67 #[.int .i64 103] w fun e w' => e = .returned (.agg #[.int .u64 549755813888, .int .u64 0]) ∧ Ext w w' := by
 have hh := c_wpow 103 w
 rw [wpow103] at hh; exact hh
set_option maxRecDepth 100000 in
set_option maxHeartbeats 4000000 in
theorem c_awake08 {w : World} : Calls Try.prog 21 #[] w fun e w' => e = .returned (.bool true) ∧ Ext w w' := by
 refine enter 39 Try.ntmps21 Try.func21 rfl (Nat.le_of_ble_eq_true rfl) fun a0 d0 z0 hargs => ?_
 have x0 := Touch.refl NoF w
 refine rgs mixed 39 [.eq (.bool false)] [[]] d0 z0 (by kernel_rfl) ⟨Ov rfl rfl fun _ _ T _ => ex_assign rfl, trivial⟩ ?_
 intro a1 w1 d1 z1 t1 e1 q1
 refine wp_seq ?_
 refine seq_begin ?_
 refine sc z1 rfl rfl (exl_call Try.func14 rfl rfl (cons_ops rfl nil_ops)) (c_New 100 (by omega) (by omega)) ?_
 rintro e2 w2 ⟨b2, Fp2, he2, H2, t2, nw2⟩; refine ⟨_, he2, ?_⟩; intro a2 u2 z2
 have x4 := (Touch.trans x0 (Ext.touch t1))
 have i3 : ∀ jQ, Fp2 jQ → (NoF) jQ ∨ w.heap.size ≤ jQ := fun jQ hQ => Or.inr (Nat.le_trans (Touch.size x4) (nw2 jQ hQ))
 refine sp z2 rfl rfl (ex_move (u2.here _ rfl)) ?_; intro a5 u5 z5
 refine sp z5 rfl rfl (ex_extract (u5.here _ rfl) rfl) ?_; intro a6 u6 z6
 refine sp z6 rfl rfl (ex_extract ((u6.past 7 rfl).trans (u5.here _ rfl)) rfl) ?_; intro a7 u7 z7
 refine sp z7 rfl rfl (ex_assign ((u7.past 9 rfl).trans (u6.here _ rfl))) ?_; intro a8 u8 z8
 refine sp z8 rfl rfl (ex_assign ((u8.past 10 rfl).trans (u7.here _ rfl))) ?_; intro a9 u9 z9
 have d10 := (u9.defs.trans (u8.defs.trans (u7.defs.trans (u6.defs.trans (u5.defs.trans (u2.defs.trans d1))))))
 refine seq_end ?_
 refine then_norm ?_
 refine wp_seq ?_
 refine seq_begin ?_
 refine sp z9 rfl rfl (ex_move ((u9.past 1 rfl).trans (u8.here _ rfl))) ?_; intro a11 u11 z11
 refine sc z11 rfl rfl (exl_call Try.func66 rfl rfl (cons_ops (u11.here _ rfl) (cons_ops rfl nil_ops))) (c_Var H2 wf_new (by simp) (by omega) 0 (by omega)) ?_
 rintro e12 w12 ⟨Fp12, A12, r12, c12, he12, H12, m12, R12, back12, more12⟩; refine ⟨_, he12, ?_⟩; intro a12 u12 z12
 have x13 := (Touch.trans x4 (Ext.touch t2))
 have i14 := Mut.inF m12 x13 i3
 have gw12 := more12 [0] (by simp) (lvIn_new _)
 have hz12 : c12 = 0 := Classical.byContradiction fun hQ => by have h9 := gw12.full hQ; simp only [List.length_cons, List.length_nil] at h9; omega
 have kn12 : decide (c12 = 0) = true := by rw [hz12]; rfl
 have gd := R12.ok.elim (fun hQ => hQ.2) (fun hQ => by omega)
 have v0 := var0 R12.wf gd.1 gd.2
 refine sp z12 rfl rfl (ex_move (u12.here _ rfl)) ?_; intro a15 u15 z15
 refine sp z15 rfl rfl (ex_extract (u15.here _ rfl) rfl) ?_; intro a16 u16 z16
 refine sp z16 rfl rfl (ex_extract ((u16.past 11 rfl).trans (u15.here _ rfl)) rfl) ?_; intro a17 u17 z17
 refine sp z17 rfl rfl (ex_assign ((u17.past 14 rfl).trans (u16.here _ rfl))) ?_; intro a18 u18 z18
 refine sp z18 rfl rfl (ex_assign ((u18.past 15 rfl).trans (u17.here _ rfl))) ?_; intro a19 u19 z19
 have d20 := (u19.defs.trans (u18.defs.trans (u17.defs.trans (u16.defs.trans (u15.defs.trans (u12.defs.trans (u11.defs.trans d10)))))))
 refine seq_end ?_
 refine then_norm ?_
 refine wp_seq ?_
 refine seq_begin ?_
 have p22 := fr4 u12.past u15.past u16.past u17.past
 refine sp z19 rfl rfl (ex_move ((u19.past 1 rfl).trans ((u18.past 1 rfl).trans ((p22 1 rfl).trans ((u11.past 1 rfl).trans ((u9.past 1 rfl).trans (u8.here _ rfl))))))) ?_; intro a21 u21 z21
 refine sp z21 rfl rfl (ex_move ((u21.past 3 rfl).trans ((u19.past 3 rfl).trans (u18.here _ rfl)))) ?_; intro a23 u23 z23
 refine scx z23 rfl rfl (exl_call Try.func25 rfl rfl (cons_ops ((u23.past 17 rfl).trans (u21.here _ rfl)) (cons_ops (u23.here _ rfl) nil_ops))) ((by have hh := c_Least H12 R12.wf _ gd.1; rw [v0.2.2, decide_eq_true v0.1] at hh; exact hh)) ?_; intro w24 a24 t24 u24 z24
 refine sp z24 rfl rfl (ex_move (u24.here _ rfl)) ?_; intro a25 u25 z25
 refine sp z25 rfl rfl (ex_extract (u25.here _ rfl) rfl) ?_; intro a26 u26 z26
 refine sp z26 rfl rfl (ex_extract ((u26.past 16 rfl).trans (u25.here _ rfl)) rfl) ?_; intro a27 u27 z27
 refine salloc z27 rfl (zv_31 _) ?_; intro b28 w28 a28 t28 g28 hb28 u28 z28
 have H12_30 := (ArenaAt.keep H12 t24)
 have o29 : ¬ Fp12 b28 := fun hQ => by have := ArenaAt.lt H12_30 hQ; omega
 have x32 := (Touch.trans (Touch.mut x13 m12 i3) (Ext.touch t24))
 have yb28_31 := Nat.le_trans (Touch.size x32) g28
 refine sstore (cs := [.int .u32 0, .int .u32 0, .int .u8 0, .int .u16 0, .int .u16 0]) (vs := [.int .u32 2147483648, .int .u32 0, .int .u8 0, .int .u16 0, .int .u16 0]) (cs' := [.int .u32 2147483648, .int .u32 0, .int .u8 0, .int .u16 0, .int .u16 0]) z28 rfl (u28.here _ rfl) ((u28.past 20 rfl).trans ((u27.past 20 rfl).trans (u26.here _ rfl))) hb28 (Try.sizeOf31 _) rfl rfl (by decide) (Nat.le_of_ble_eq_true rfl) rfl rfl ?_; intro w33 a33 t33 u33 z33
 refine sp z33 rfl rfl (ex_assign ((u33.past 21 rfl).trans ((u28.past 21 rfl).trans (u27.here _ rfl)))) ?_; intro a34 u34 z34
 have d35 := (u34.defs.trans (u33.defs.trans (u28.defs.trans (u27.defs.trans (u26.defs.trans (u25.defs.trans (u24.defs.trans (u23.defs.trans (u21.defs.trans d20)))))))))
 refine seq_end ?_
 refine then_norm ?_
 refine wp_seq ?_
 refine seq_begin ?_
 have p37 := fr4 u24.past u25.past u26.past u27.past
 refine sp z34 rfl rfl (ex_move ((u34.past 4 rfl).trans ((u33.past 4 rfl).trans ((u28.past 4 rfl).trans ((p37 4 rfl).trans ((u23.past 4 rfl).trans ((u21.past 4 rfl).trans (u19.here _ rfl)))))))) ?_; intro a36 u36 z36
 refine sp z36 rfl rfl (ex_eql (u36.here _ rfl) rfl) ?_; intro a38 u38 z38
 refine sp z38 rfl rfl (ex_move (u38.here _ rfl)) ?_; intro a39 u39 z39
 have p41 := fr4 u18.past u19.past u21.past u23.past
 have p42 := fr4 u28.past u33.past u34.past u36.past
 refine sy z39 rfl rfl rfl ((u39.here _ rfl).trans (by rw [kn12])) (ex_move ((u39.past 1 rfl).trans ((u38.past 1 rfl).trans ((p42 1 rfl).trans ((p37 1 rfl).trans ((p41 1 rfl).trans ((p22 1 rfl).trans ((u11.past 1 rfl).trans ((u9.past 1 rfl).trans (u8.here _ rfl)))))))))) ?_; intro a40 u40 z40
 refine sy z40 rfl rfl rfl (((u40.past 24 rfl).trans (u39.here _ rfl)).trans (by rw [kn12])) (ex_move ((u40.past 3 rfl).trans ((u39.past 3 rfl).trans ((u38.past 3 rfl).trans ((p42 3 rfl).trans ((p37 3 rfl).trans ((u23.past 3 rfl).trans ((u21.past 3 rfl).trans ((u19.past 3 rfl).trans (u18.here _ rfl)))))))))) ?_; intro a43 u43 z43
 have H12_45 := (ArenaAt.turn (ArenaAt.keep H12_30 t28) t33 o29)
 refine scyx z43 rfl rfl rfl (((u43.past 24 rfl).trans ((u40.past 24 rfl).trans (u39.here _ rfl))).trans (by rw [kn12])) (exl_call Try.func24 rfl rfl (cons_ops ((u43.past 25 rfl).trans (u40.here _ rfl)) (cons_ops (u43.here _ rfl) nil_ops))) ((by have hh := c_satCount H12_45 R12.wf _ gd.1; rw [v0.2.1, hi103.1, hi103.2] at hh; exact hh)) ?_; intro w44 a44 t44 u44 z44
 refine scyx z44 rfl rfl rfl (((u44.past 24 rfl).trans ((u43.past 24 rfl).trans ((u40.past 24 rfl).trans (u39.here _ rfl)))).trans (by rw [kn12])) (exl_call Try.func67 rfl rfl (cons_ops rfl nil_ops)) (c_wpow103 _) ?_; intro w46 a46 t46 u46 z46
 refine sy z46 rfl rfl rfl (((u46.past 24 rfl).trans ((u44.past 24 rfl).trans ((u43.past 24 rfl).trans ((u40.past 24 rfl).trans (u39.here _ rfl))))).trans (by rw [kn12])) (ex_binOp ((u46.past 27 rfl).trans (u44.here _ rfl)) (u46.here _ rfl) (eqs_eql eg_57 (eq_57 9998 _ 549755813888 549755813888 0 0))) ?_; intro a47 u47 z47
 refine sp z47 rfl rfl (ex_pick_t (((u47.past 24 rfl).trans ((u46.past 24 rfl).trans ((u44.past 24 rfl).trans ((u43.past 24 rfl).trans ((u40.past 24 rfl).trans (u39.here _ rfl)))))).trans (by rw [kn12])) (u47.here _ rfl)) ?_; intro a48 u48 z48
 refine sp z48 rfl rfl (ex_move (u48.here _ rfl)) ?_; intro a49 u49 z49
 have p51 := fr4 u38.past u39.past u40.past u43.past
 have p52 := fr4 u44.past u46.past u47.past u48.past
 refine sg z49 rfl rfl rfl (u49.here _ rfl) (fun hcQ => ex_move ((u49.past 6 rfl).trans ((p52 6 rfl).trans ((p51 6 rfl).trans ((u36.past 6 rfl).trans (u34.here _ rfl)))))) ?_; intro a50 u50 z50
 refine sp z50 rfl rfl (ex_pick_and ((u50.past 31 rfl).trans (u49.here _ rfl)) (u50.here _ rfl) rfl) ?_; intro a53 u53 z53
 refine sp z53 rfl rfl (ex_move (u53.here _ rfl)) ?_; intro a54 u54 z54
 have p56 := fr4 u49.past u50.past u53.past u54.past
 have t33.here_57 := (Ext.keep t46 (Ext.keep t44 t33.here))
 refine sg z54 rfl rfl rfl (u54.here _ rfl) (fun hcQ => ex_loadAgg (cs := [.int .u32 2147483648, .int .u32 0, .int .u8 0, .int .u16 0, .int .u16 0]) ((p56 5 rfl).trans ((p52 5 rfl).trans ((p51 5 rfl).trans ((u36.past 5 rfl).trans ((u34.past 5 rfl).trans ((u33.past 5 rfl).trans (u28.here _ rfl))))))) (Try.isAgg31 _) (Try.sizeOf31 _) (cells_of (off := 0) t33.here_57 rfl)) ?_; intro a55 u55 z55
 refine sg z55 rfl rfl rfl ((u55.past 34 rfl).trans (u54.here _ rfl)) (fun hcQ => exl_build (cons_parts rfl nil_parts) (bd_31_0Iu32 2147483648 _)) ?_; intro a58 u58 z58
 refine sg z58 rfl rfl rfl ((u58.past 34 rfl).trans ((u55.past 34 rfl).trans (u54.here _ rfl))) (fun hcQ => ex_binOp (((u58.past 35 rfl).trans (u55.here _ rfl)).trans (if_pos hcQ)) ((u58.here _ rfl).trans (if_pos hcQ)) (eqs_eql eg_31 (eq_31 9998 _ 2147483648 2147483648 0 0 0 0 0 0 0 0))) ?_; intro a59 u59 z59
 refine sp z59 rfl rfl (ex_pick_and ((u59.past 34 rfl).trans ((u58.past 34 rfl).trans ((u55.past 34 rfl).trans (u54.here _ rfl)))) (u59.here _ rfl) rfl) ?_; intro a60 u60 z60
 refine sp z60 rfl rfl (ex_assign (u60.here _ rfl)) ?_; intro a61 u61 z61
 have d62 := (u61.defs.trans (u60.defs.trans (u59.defs.trans (u58.defs.trans (u55.defs.trans (u54.defs.trans (u53.defs.trans (u50.defs.trans (u49.defs.trans (u48.defs.trans (u47.defs.trans (u46.defs.trans (u44.defs.trans (u43.defs.trans (u40.defs.trans (u39.defs.trans (u38.defs.trans (u36.defs.trans d35))))))))))))))))))
 refine seq_end ?_
 refine then_norm ?_
 refine wp_ret ?_
 have s63_0 : a61.eval (.tmp 0) = .bool (((549755813888 == 549755813888 && (0 == 0 && true)) && true) && (2147483648 == 2147483648 && (0 == 0 && (0 == 0 && (0 == 0 && (0 == 0 && true)))))) := (u61.here _ rfl)
 repeat (first | (with_reducible refine then_ret ?_) | (with_reducible refine block_ret ?_))
 refine retl (rs := [.tmp 0]) Try.results21 ⟨s63_0, trivial⟩ d62 ?_
 have x64 := (Touch.trans (Touch.trans (Touch.turn (Touch.trans x32 (Ext.touch t28)) t33 (Or.inr yb28_31)) (Ext.touch t44)) (Ext.touch t46))
 exact ⟨by simp, (x64).ext⟩

end Go.Proofs.Yticodddigaiipaa
