/-
 Contracts of functions of the given program, each proved by a walk through its code: what a call answers, and what it leaves of memory; conditions: those ahead of each theorem's colon.
-/
import Derived.Test.YticodddigaiipaaSatS9
import Derived.Test.YticodddigaiipaaSatL16
set_option linter.unusedVariables false
set_option linter.unusedSimpArgs false
namespace Go.Proofs.Yticodddigaiipaa
open Go.RowKit
theorem cv_3_55 {n : Int} {w : World} : (convert 3 55 (.int .i64 n)).run Try.prog w = .ok (.int .u64 (IntKind.u64.wrap n)) w := run_conv Try.underlying3 Try.underlying55
theorem cvn_3_55 {n : Int} {w : World} (h : 0 ≤ n ∧ n ≤ 18446744073709551615) : (convert 3 55 (.int .i64 n)).run Try.prog w = .ok (.int .u64 n) w := by rw [cv_3_55, wrap_u64 h]
theorem bd_61_1Iu64 (x0 : Int) (w : World) : (Instr.build 61 #[(1, .int .u64 x0)]).run Try.prog w = .ok (.agg #[.int .u64 0, .int .u64 x0]) w := by kernel_rfl

/-- what Counts answers -/
structure CtOut (L : List Ex) (C : List (Int × Int)) (M : List H5) (S : List Bool) : Prop where
 c : ∀ j : Int, 0 ≤ j → j < L.length → at_ C c20 j = (hiW (cntW L j (2 ^ (varsL L 104).length) * 2 ^ (104 - (varsL L 104).length)), loW (cntW L j (2 ^ (varsL L 104).length) * 2 ^ (104 - (varsL L 104).length)))
 m : ∀ j : Int, 0 ≤ j → j < L.length → at_ M h50 j = lstW L j (2 ^ (varsL L 104).length)
 s : ∀ j : Int, 0 ≤ j → j < L.length → at_ S false j = (fstW L j (2 ^ (varsL L 104).length)).isSome
 lc : C.length = L.length
 lm : M.length = L.length
 ls : S.length = L.length
structure CtC (L : List Ex) (q : Nat) (C : List (Int × Int)) : Prop where
 ln : C.length = L.length
 c : ∀ j : Int, 0 ≤ j → j < q → at_ C c20 j = (hiW (cntW L j (2 ^ (varsL L 104).length) * 2 ^ (104 - (varsL L 104).length)), loW (cntW L j (2 ^ (varsL L 104).length) * 2 ^ (104 - (varsL L 104).length)))
theorem CtC.start (L : List Ex) : CtC L 0 (List.replicate L.length c20) := ⟨by simp, fun j h0 h1 => by omega⟩
theorem ct_next {L : List Ex} {q : Nat} {C : List (Int × Int)} (h : CtC L q C) (hq : q < L.length) {x : Int × Int} (hx : x = (hiW (cntW L q (2 ^ (varsL L 104).length) * 2 ^ (104 - (varsL L 104).length)), loW (cntW L q (2 ^ (varsL L 104).length) * 2 ^ (104 - (varsL L 104).length)))) : CtC L (q + 1) (C.set (Int.toNat (q : Int)) x) := by
 have hl := h.ln
 refine ⟨by rw [List.length_set]; exact hl, fun j h0 h1 => ?_⟩
 rw [at_set (by omega) h0 (by omega)]
 by_cases hj : j = q
 ·subst hj; rw [if_pos rfl, hx]
 ·rw [if_neg hj]; exact h.c j h0 (by omega)
theorem CtC.out {L : List Ex} {C : List (Int × Int)} {N : List Int} {M : List H5} {S : List Bool} (h : CtC L L.length C) (hi : CtInv L L.length (2 ^ (varsL L 104).length) 0 N M S) : CtOut L C M S :=
 ⟨h.c, fun j h0 h1 => by rw [hi.am j h0 h1, if_neg (by omega)], fun j h0 h1 => by rw [hi.asm j h0 h1, if_neg (by omega)], h.ln, hi.lm, hi.ls⟩
theorem cnt_small (L : List Ex) (j : Int) (hk : (varsL L 104).length ≤ 104) : cntW L j (2 ^ (varsL L 104).length) * 2 ^ (104 - ((varsL L 104).length : Int)).toNat < 340282366920938463463374607431768211456 := by
 have h1 := Nat.mul_le_mul_right (2 ^ (104 - (varsL L 104).length)) (cntW_le L j (2 ^ (varsL L 104).length))
 rw [← Nat.pow_add, show (varsL L 104).length + (104 - (varsL L 104).length) = 104 by omega] at h1
 rw [show (104 - ((varsL L 104).length : Int)).toNat = 104 - (varsL L 104).length by omega]
 exact Nat.lt_of_le_of_lt h1 (by decide)
theorem c_wup0 {x n : Int} {m : Nat} (hx : x = (m : Int)) (hm : m < 18446744073709551616) (h0 : 0 ≤ n) (h1 : n < 128) (h : m * 2 ^ n.toNat < 340282366920938463463374607431768211456) (w : World) : Calls Try.prog 74 #[.agg #[.int .u64 0, .int .u64 x], .int .i64 n] w fun e w' => e = .returned (.agg #[.int .u64 (hiW (m * 2 ^ n.toNat)), .int .u64 (loW (m * 2 ^ n.toNat))]) ∧ Ext w w' := by
 have := c_Up01 (w := w) (m := m) h0 h1 h
 rw [show hiW m = 0 by unfold hiW; omega, show loW m = x by unfold loW; omega] at this; exact this
theorem apN_0 (V : List Int) (w : Nat) : bitsV (apN V w 0) 104 = List.replicate 104 false := rep_bitsV.symm
theorem apN_next (V : List Int) (w n : Nat) : apN V w (n + 1) = upd (apN V w n) (at_ V 0 (n : Int)) (bitW (w : Int) V.length n) := rfl
theorem c_BackV {w : World} {Q : Option Addr} {cq : Nat} {v u : Val} (HR : Reads w (.slice Q 104 cq) 1 (flat bov1 (bitsV v 104)) 104) (hu : v = u) : Calls Try.prog 72 #[.slice Q 104 cq] w fun e w' => e = .returned (.agg #[.int .u32 ((hmk u).1), .int .u32 ((hmk u).2.1), .int .u8 ((hmk u).2.2.1), .int .u16 ((hmk u).2.2.2.1), .int .u16 ((hmk u).2.2.2.2)]) ∧ Ext w w' := by
 have := c_Back02 HR (by rw [bitsV_len]) rfl
 rw [mk_bitsV, hu] at this; exact this

attribute [local irreducible] varsL bitsV apN
set_option maxRecDepth 100000 in
set_option maxHeartbeats 4000000 in
theorem c_Counts08 {w : World} {Q : Option Addr} {L : List Ex} {cq : Nat} (HR : Reads w (.slice Q L.length cq) 6 (flat exv L) L.length)(hc : L.length ≤ cq) (hR : RightL L) (hL : L.length ≤ 30) (h7 : (varsL L 104).length ≤ 7) : Calls Try.prog 23 #[.slice Q L.length cq] w fun e w' => ∃ Q1 c1 Q2 c2 Q3 c3 C M S, e = .returned (.tuple #[.slice Q1 L.length c1, .slice Q2 L.length c2, .slice Q3 L.length c3]) ∧ Ext w w' ∧ CtOut L C M S ∧ w'.ownsRow 0 61 2 (.slice Q1 L.length c1) L.length (flat c2v C) ∧ w'.ownsRow 0 31 5 (.slice Q2 L.length c2) L.length (flat h5v M) ∧ w'.ownsRow 0 4 1 (.slice Q3 L.length c3) L.length (flat bov1 S) ∧ (∀ j, (Value.slice Q1 L.length c1).ownBlock = some j → w.heap.size ≤ j) ∧ (∀ j, (Value.slice Q2 L.length c2).ownBlock = some j → w.heap.size ≤ j) ∧ (∀ j, (Value.slice Q3 L.length c3).ownBlock = some j → w.heap.size ≤ j) := by
 refine enter 115 Try.ntmps23 Try.func23 rfl (Nat.le_of_ble_eq_true rfl) fun a0 d0 z0 hargs => ?_
 have s0_0 : a0.eval (.tmp 0) = .slice Q L.length cq := hargs 0 _ rfl
 have x0 := Touch.refl NoF w
 refine rgs mixed 115 [.eq (.slice none 0 0), .eq (.slice none 0 0), .eq (.slice none 0 0)] [[], [], []] d0 z0 (by kernel_rfl) ⟨Ov rfl rfl fun _ _ T _ => ex_assign rfl, Ov rfl rfl fun _ _ T _ => ex_assign rfl, Ov rfl rfl fun _ _ T _ => ex_assign rfl, trivial⟩ ?_
 intro a1 w1 d1 z1 t1 e1 q1
 refine wp_seq ?_
 refine seq_begin ?_
 refine sp z1 rfl rfl (ex_move ((q1 0 rfl).trans s0_0)) ?_; intro a2 u2 z2
 have x5 := (Touch.trans x0 (Ext.touch t1))
 have rd4 := Reads.touch HR x5 (by decide) (reads_noF _ _)
 refine sc z2 rfl rfl (exl_call Try.func65 rfl rfl (cons_ops (u2.here _ rfl) nil_ops)) (c_Vars08 rd4 (by omega)) ?_
 rintro e3 w3 ⟨Q3, cq3, he3, ho3, t3, hb3⟩; refine ⟨_, he3, ?_⟩; intro a3 u3 z3
 have no6 := row_base (hb3) (Touch.size x5)
 refine sp z3 rfl rfl (ex_assign (u3.here _ rfl)) ?_; intro a7 u7 z7
 have d8 := (u7.defs.trans (u3.defs.trans (u2.defs.trans d1)))
 refine seq_end ?_
 refine then_norm ?_
 refine wp_seq ?_
 refine seq_begin ?_
 have p10 := fr4 q1 u2.past u3.past u7.past
 refine sp z7 rfl rfl (ex_move ((p10 0 rfl).trans s0_0)) ?_; intro a9 u9 z9
 refine sp z9 rfl rfl (ex_len (cons_ops (u9.here _ rfl) nil_ops) Try.underlying45) ?_; intro a11 u11 z11
 refine smake (m := L.length) (bytes := 8) (zv := .int .i64 (0 : Int)) (enc := inv1) (z0 := (0 : Int)) z11 rfl Try.underlying47 (by kernel_rfl) rfl rfl (by decide) (u11.here _ rfl) (u11.here _ rfl) (by omega) (by omega) ?_; intro b12 w12 a12 t12 g12 ho12 u12 z12
 have no13 := no_new ho3 g12
 have x15 := (Touch.trans x5 (Ext.touch t3))
 have yb12_14 := Nat.le_trans (Touch.size x15) g12
 refine sp z12 rfl rfl (ex_assign (u12.here _ rfl)) ?_; intro a16 u16 z16
 have d17 := (u16.defs.trans (u12.defs.trans (u11.defs.trans (u9.defs.trans d8))))
 refine seq_end ?_
 refine then_norm ?_
 refine wp_seq ?_
 refine seq_begin ?_
 have p19 := fr4 u9.past u11.past u12.past u16.past
 refine sp z16 rfl rfl (ex_move ((p19 0 rfl).trans ((p10 0 rfl).trans s0_0))) ?_; intro a18 u18 z18
 refine sp z18 rfl rfl (ex_len (cons_ops (u18.here _ rfl) nil_ops) Try.underlying45) ?_; intro a20 u20 z20
 refine smake (m := L.length) (bytes := 16) (zv := .agg #[.int .u32 h50.1, .int .u32 h50.2.1, .int .u8 h50.2.2.1, .int .u16 h50.2.2.2.1, .int .u16 h50.2.2.2.2]) (enc := h5v) (z0 := h50) z20 rfl Try.underlying51 (by kernel_rfl) rfl rfl (by decide) (u20.here _ rfl) (u20.here _ rfl) (by omega) (by omega) ?_; intro b21 w21 a21 t21 g21 ho21 u21 z21
 have ho3_23 := (own_keep ho3 t12)
 have no22 := no_new ho3_23 g21
 have n24_b12_b21 := ne_lt (own_lt ho12 rfl) g21
 have x26 := (Touch.trans x15 (Ext.touch t12))
 have yb21_25 := Nat.le_trans (Touch.size x26) g21
 refine sp z21 rfl rfl (ex_assign (u21.here _ rfl)) ?_; intro a27 u27 z27
 have d28 := (u27.defs.trans (u21.defs.trans (u20.defs.trans (u18.defs.trans d17))))
 refine seq_end ?_
 refine then_norm ?_
 refine wp_seq ?_
 refine seq_begin ?_
 have p30 := fr4 u18.past u20.past u21.past u27.past
 refine sp z27 rfl rfl (ex_move ((p30 0 rfl).trans ((p19 0 rfl).trans ((p10 0 rfl).trans s0_0)))) ?_; intro a29 u29 z29
 refine sp z29 rfl rfl (ex_len (cons_ops (u29.here _ rfl) nil_ops) Try.underlying45) ?_; intro a31 u31 z31
 refine smake (m := L.length) (bytes := 1) (zv := .bool false) (enc := bov1) (z0 := false) z31 rfl Try.underlying52 (by kernel_rfl) rfl rfl (by decide) (u31.here _ rfl) (u31.here _ rfl) (by omega) (by omega) ?_; intro b32 w32 a32 t32 g32 ho32 u32 z32
 have ho3_34 := (own_keep ho3_23 t21)
 have no33 := no_new ho3_34 g32
 have ho12_36 := (own_keep ho12 t21)
 have n35_b12_b32 := ne_lt (own_lt ho12_36 rfl) g32
 have n37_b21_b32 := ne_lt (own_lt ho21 rfl) g32
 have x39 := (Touch.trans x26 (Ext.touch t21))
 have yb32_38 := Nat.le_trans (Touch.size x39) g32
 refine sp z32 rfl rfl (ex_assign (u32.here _ rfl)) ?_; intro a40 u40 z40
 have d41 := (u40.defs.trans (u32.defs.trans (u31.defs.trans (u29.defs.trans d28))))
 refine seq_end ?_
 refine then_norm ?_
 refine wp_seq_k fun K42 hK42 => ?_
 refine rgs mixed 115 [.eq (.int .i64 0)] [[]] d41 z40 (by kernel_rfl) ⟨Ov rfl rfl fun _ _ T _ => ex_assign rfl, trivial⟩ ?_
 intro a43 w43 d43 z43 t43 e43 q43
 refine wp_block ?_
 obtain ⟨P, hP⟩ : ∃ P, P = 2 ^ (varsL L 104).length := ⟨_, rfl⟩
 have hP7 : P ≤ 128 := by rw [hP]; exact Nat.pow_le_pow_right (n := 2) (by omega) h7
 have hsh := shl_small (k := (varsL L 104).length) (by omega)
 rw [← hP] at hsh
 have p46 := fr4 u29.past u31.past u32.past u40.past
 have p47 := fr4 p10 p19 p30 p46
 have s45_0 := ((q43 0 rfl).trans ((p47 0 rfl).trans s0_0))
 have s48_2 : a1.eval (.tmp 2) = .slice none 0 0 := e1.1
 have s49_2 := ((q43 2 rfl).trans ((p46 2 rfl).trans ((p30 2 rfl).trans ((p19 2 rfl).trans ((u7.past 2 rfl).trans ((u3.past 2 rfl).trans ((u2.past 2 rfl).trans s48_2)))))))
 have s50_3 : a1.eval (.tmp 3) = .slice none 0 0 := e1.2.1
 have s51_3 := ((q43 3 rfl).trans ((p46 3 rfl).trans ((p30 3 rfl).trans ((p19 3 rfl).trans ((u7.past 3 rfl).trans ((u3.past 3 rfl).trans ((u2.past 3 rfl).trans s50_3)))))))
 have s52_4 : a1.eval (.tmp 4) = .slice none 0 0 := e1.2.2.1
 have s53_4 := ((q43 4 rfl).trans ((p46 4 rfl).trans ((p30 4 rfl).trans ((p19 4 rfl).trans ((u7.past 4 rfl).trans ((u3.past 4 rfl).trans ((u2.past 4 rfl).trans s52_4)))))))
 have s54_5 : a7.eval (.tmp 5) = .slice Q3 ((varsL L 104).length) cq3 := (u7.here _ rfl)
 have s55_5 := ((q43 5 rfl).trans ((p46 5 rfl).trans ((p30 5 rfl).trans ((p19 5 rfl).trans s54_5))))
 have s56_6 : a16.eval (.tmp 6) = .slice (some ⟨b12, 0, none⟩) L.length L.length := (u16.here _ rfl)
 have s57_6 := ((q43 6 rfl).trans ((p46 6 rfl).trans ((p30 6 rfl).trans s56_6)))
 have s58_7 : a27.eval (.tmp 7) = .slice (some ⟨b21, 0, none⟩) L.length L.length := (u27.here _ rfl)
 have s59_7 := ((q43 7 rfl).trans ((p46 7 rfl).trans s58_7))
 have s60_8 : a40.eval (.tmp 8) = .slice (some ⟨b32, 0, none⟩) L.length L.length := (u40.here _ rfl)
 have s61_8 := ((q43 8 rfl).trans s60_8)
 have s62_9 : a43.eval (.tmp 9) = .int .i64 0 := e43.1
 have x63 := (Touch.trans (Touch.trans x39 (Ext.touch t32)) (Ext.touch t43))
 have ho3_64 := (own_keep (own_keep ho3_34 t32) t43)
 have ho12_67 := (own_keep (own_keep ho12_36 t32) t43)
 have ho21_69 := (own_keep (own_keep ho21 t32) t43)
 have ho32_71 := (own_keep ho32 t43)
 refine wp_loopg (σ := Nat) (fun nQ aQ wQ => ∃ w0 : Nat, ∃ N0 : List Int, ∃ M0 : List H5, ∃ S0 : List Bool, nQ = (P - w0) ∧
  aQ.defers = [] ∧
  aQ.tmps.size = 115 ∧
  aQ.eval (.tmp 0) = .slice Q L.length cq ∧
  aQ.eval (.tmp 2) = .slice none 0 0 ∧
  aQ.eval (.tmp 3) = .slice none 0 0 ∧
  aQ.eval (.tmp 4) = .slice none 0 0 ∧
  aQ.eval (.tmp 5) = .slice Q3 ((varsL L 104).length) cq3 ∧
  aQ.eval (.tmp 6) = .slice (some ⟨b12, 0, none⟩) L.length L.length ∧
  aQ.eval (.tmp 7) = .slice (some ⟨b21, 0, none⟩) L.length L.length ∧
  aQ.eval (.tmp 8) = .slice (some ⟨b32, 0, none⟩) L.length L.length ∧
  aQ.eval (.tmp 9) = .int .i64 (w0 : Int) ∧
  Touch (NoF) w wQ ∧
  wQ.ownsRow 0 3 1 (.slice Q3 ((varsL L 104).length) cq3) ((varsL L 104).length) (flat inv1 (varsL L 104)) ∧
  wQ.ownsRow 0 3 1 (.slice (some ⟨b12, 0, none⟩) L.length L.length) L.length (flat inv1 N0) ∧
  wQ.ownsRow 0 31 5 (.slice (some ⟨b21, 0, none⟩) L.length L.length) L.length (flat h5v M0) ∧
  wQ.ownsRow 0 4 1 (.slice (some ⟨b32, 0, none⟩) L.length L.length) L.length (flat bov1 S0) ∧
  (w0 ≤ P) ∧
  (CtInv L L.length w0 0 N0 M0 S0)) (fun nQ => nQ) _ ⟨0, (List.replicate L.length (0 : Int)), (List.replicate L.length h50), (List.replicate L.length false), rfl, d43, z43, s45_0, s49_2, s51_3, s53_4, s55_5, s57_6, s59_7, s61_8, (s62_9.trans (by first | rfl | (congr 1; omega) | (simp; omega) | simp)), x63, ho3_64, ho12_67, ho21_69, ho32_71, Nat.zero_le _, CtInv.start L _⟩ ?_
 rintro nQ44 a44 w44 ⟨w0, N0, M0, S0, hmu44, d44, z44, s44_0, s44_2, s44_3, s44_4, s44_5, s44_6, s44_7, s44_8, s44_9, x44, ho3_65, f66, f68, f70, hw0, hct0⟩
 refine wp_seq_k fun K72 hK72 => ?_
 refine rgs mixed 115 [.eq (.int .i64 (w0 : Int)), .eq (.slice Q3 ((varsL L 104).length) cq3), .eq (.int .i64 ((varsL L 104).length : Int)), .eq (.int .i64 (IntKind.i64.wrap (1 * 2 ^ min (((varsL L 104).length : Int)).toNat IntKind.i64.bits))), .eq (.bool (decide ((w0 : Int) < (IntKind.i64.wrap (1 * 2 ^ min (((varsL L 104).length : Int)).toNat IntKind.i64.bits)))))] [[(9, none)], [(5, none)], [(29, some 1)], [(30, some 2)], [(28, some 0), (31, some 3)]] d44 z44 (by kernel_rfl) ⟨Ov rfl rfl fun _ _ T ⟨k9, _⟩ => ex_move (k9.trans s44_9),
  Ov rfl rfl fun _ _ T ⟨k5, _⟩ => ex_move (k5.trans s44_5),
  Ov rfl rfl fun _ _ T ⟨k29, _⟩ => ex_len (cons_ops k29 nil_ops) Try.underlying47,
  Ov rfl rfl fun _ _ T ⟨k30, _⟩ => ex_shl rfl k30 (by omega),
  Ov rfl rfl fun _ _ T ⟨k28, k31, _⟩ => ex_lss k28 k31,
  trivial⟩ ?_
 intro a73 w73 d73 z73 t73 e73 q73
 by_cases c74 : (w0 : Int) < (IntKind.i64.wrap (1 * 2 ^ min (((varsL L 104).length : Int)).toNat IntKind.i64.bits))
 ·have y74 := decide_eq_true c74
  have s75_32 : a73.eval (.tmp 32) = .bool (decide ((w0 : Int) < (IntKind.i64.wrap (1 * 2 ^ min (((varsL L 104).length : Int)).toNat IntKind.i64.bits)))) := e73.2.2.2.2.1
  refine wp_cond_true (s75_32.trans (by rw [y74])) ?_
  refine wp_skip ?_
  repeat (with_reducible refine block_norm ?_)
  refine hK72 _ _ ?_
  refine wp_seq_k fun K76 hK76 => ?_
  refine wp_block ?_
  refine wp_seq ?_
  refine seq_begin ?_
  refine smake (m := 104) (bytes := 1) (zv := .bool false) (enc := bov1) (z0 := false) z73 rfl Try.underlying52 (by kernel_rfl) rfl rfl (by decide) rfl rfl (by omega) (by omega) ?_; intro b77 w77 a77 t77 g77 ho77 u77 z77
  have ho3_79 := (own_keep ho3_65 t73)
  have no78 := no_new ho3_79 g77
  have f66_81 := (own_keep f66 t73)
  have n80_b12_b77 := ne_lt (own_lt f66_81 rfl) g77
  have f68_83 := (own_keep f68 t73)
  have n82_b21_b77 := ne_lt (own_lt f68_83 rfl) g77
  have f70_85 := (own_keep f70 t73)
  have n84_b32_b77 := ne_lt (own_lt f70_85 rfl) g77
  have x87 := (Touch.trans x44 (Ext.touch t73))
  have yb77_86 := Nat.le_trans (Touch.size x87) g77
  refine sp z77 rfl rfl (ex_assign (u77.here _ rfl)) ?_; intro a88 u88 z88
  have d89 := (u88.defs.trans (u77.defs.trans d73))
  refine seq_end ?_
  refine then_norm ?_
  refine wp_seq_k fun K90 hK90 => ?_
  refine rgs mixed 115 [.eq (.int .i64 0)] [[]] d89 z88 (by kernel_rfl) ⟨Ov rfl rfl fun _ _ T _ => ex_assign rfl, trivial⟩ ?_
  intro a91 w91 d91 z91 t91 e91 q91
  refine wp_block ?_
  have hlt0 := c74
  rw [hsh] at hlt0
  have p94 := fr4 q73 u77.past u88.past q91
  have s93_0 := ((p94 0 rfl).trans s44_0)
  have s95_2 := ((p94 2 rfl).trans s44_2)
  have s96_3 := ((p94 3 rfl).trans s44_3)
  have s97_4 := ((p94 4 rfl).trans s44_4)
  have s98_5 := ((p94 5 rfl).trans s44_5)
  have s99_6 := ((p94 6 rfl).trans s44_6)
  have s100_7 := ((p94 7 rfl).trans s44_7)
  have s101_8 := ((p94 8 rfl).trans s44_8)
  have s102_9 := ((p94 9 rfl).trans s44_9)
  have s103_10 : a88.eval (.tmp 10) = .slice (some ⟨b77, 0, none⟩) 104 104 := (u88.here _ rfl)
  have s104_10 := ((q91 10 rfl).trans s103_10)
  have s105_11 : a91.eval (.tmp 11) = .int .i64 0 := e91.1
  have s106_28 : a73.eval (.tmp 28) = .int .i64 (w0 : Int) := e73.1
  have s107_28 := ((q91 28 rfl).trans ((u88.past 28 rfl).trans ((u77.past 28 rfl).trans s106_28)))
  have s108_29 : a73.eval (.tmp 29) = .slice Q3 ((varsL L 104).length) cq3 := e73.2.1
  have s109_29 := ((q91 29 rfl).trans ((u88.past 29 rfl).trans ((u77.past 29 rfl).trans s108_29)))
  have s110_30 : a73.eval (.tmp 30) = .int .i64 ((varsL L 104).length : Int) := e73.2.2.1
  have s111_30 := ((q91 30 rfl).trans ((u88.past 30 rfl).trans ((u77.past 30 rfl).trans s110_30)))
  have s112_31 : a73.eval (.tmp 31) = .int .i64 (IntKind.i64.wrap (1 * 2 ^ min (((varsL L 104).length : Int)).toNat IntKind.i64.bits)) := e73.2.2.2.1
  have s113_31 := ((q91 31 rfl).trans ((u88.past 31 rfl).trans ((u77.past 31 rfl).trans s112_31)))
  have s114_32 := ((q91 32 rfl).trans ((u88.past 32 rfl).trans ((u77.past 32 rfl).trans s75_32)))
  have s115_35 : a77.eval (.tmp 35) = .slice (some ⟨b77, 0, none⟩) 104 104 := (u77.here _ rfl)
  have s116_35 := ((q91 35 rfl).trans ((u88.past 35 rfl).trans s115_35))
  have x117 := (Touch.trans (Touch.trans x87 (Ext.touch t77)) (Ext.touch t91))
  have ho3_118 := (own_keep (own_keep ho3_79 t77) t91)
  have f66_120 := (own_keep (own_keep f66_81 t77) t91)
  have f68_122 := (own_keep (own_keep f68_83 t77) t91)
  have f70_124 := (own_keep (own_keep f70_85 t77) t91)
  have ho77_127 := (own_keep ho77 t91)
  refine wp_loopg (σ := Nat) (fun nQ aQ wQ => ∃ i : Nat, nQ = ((varsL L 104).length - i) ∧
   aQ.defers = [] ∧
   aQ.tmps.size = 115 ∧
   aQ.eval (.tmp 0) = .slice Q L.length cq ∧
   aQ.eval (.tmp 2) = .slice none 0 0 ∧
   aQ.eval (.tmp 3) = .slice none 0 0 ∧
   aQ.eval (.tmp 4) = .slice none 0 0 ∧
   aQ.eval (.tmp 5) = .slice Q3 ((varsL L 104).length) cq3 ∧
   aQ.eval (.tmp 6) = .slice (some ⟨b12, 0, none⟩) L.length L.length ∧
   aQ.eval (.tmp 7) = .slice (some ⟨b21, 0, none⟩) L.length L.length ∧
   aQ.eval (.tmp 8) = .slice (some ⟨b32, 0, none⟩) L.length L.length ∧
   aQ.eval (.tmp 9) = .int .i64 (w0 : Int) ∧
   aQ.eval (.tmp 10) = .slice (some ⟨b77, 0, none⟩) 104 104 ∧
   aQ.eval (.tmp 11) = .int .i64 (i : Int) ∧
   aQ.eval (.tmp 28) = .int .i64 (w0 : Int) ∧
   aQ.eval (.tmp 29) = .slice Q3 ((varsL L 104).length) cq3 ∧
   aQ.eval (.tmp 30) = .int .i64 ((varsL L 104).length : Int) ∧
   aQ.eval (.tmp 31) = .int .i64 (IntKind.i64.wrap (1 * 2 ^ min (((varsL L 104).length : Int)).toNat IntKind.i64.bits)) ∧
   aQ.eval (.tmp 32) = .bool (decide ((w0 : Int) < (IntKind.i64.wrap (1 * 2 ^ min (((varsL L 104).length : Int)).toNat IntKind.i64.bits)))) ∧
   aQ.eval (.tmp 35) = .slice (some ⟨b77, 0, none⟩) 104 104 ∧
   Touch (NoF) w wQ ∧
   wQ.ownsRow 0 3 1 (.slice Q3 ((varsL L 104).length) cq3) ((varsL L 104).length) (flat inv1 (varsL L 104)) ∧
   wQ.ownsRow 0 3 1 (.slice (some ⟨b12, 0, none⟩) L.length L.length) (L.length) (flat inv1 N0) ∧
   wQ.ownsRow 0 31 5 (.slice (some ⟨b21, 0, none⟩) L.length L.length) (L.length) (flat h5v M0) ∧
   wQ.ownsRow 0 4 1 (.slice (some ⟨b32, 0, none⟩) L.length L.length) (L.length) (flat bov1 S0) ∧
   wQ.ownsRow 0 4 1 (.slice (some ⟨b77, 0, none⟩) 104 104) 104 (flat bov1 (bitsV (apN (varsL L 104) w0 i) 104)) ∧
   (i ≤ (varsL L 104).length)) (fun nQ => nQ) _ ⟨0, rfl, d91, z91, s93_0, s95_2, s96_3, s97_4, s98_5, s99_6, s100_7, s101_8, s102_9, s104_10, (s105_11.trans (by first | rfl | (congr 1; omega) | (simp; omega) | simp)), s107_28, s109_29, s111_30, s113_31, s114_32, s116_35, x117, ho3_118, f66_120, f68_122, f70_124, (by rw [apN_0]; exact ho77_127), Nat.zero_le _⟩ ?_
  rintro nQ92 a92 w92 ⟨i, hmu92, d92, z92, s92_0, s92_2, s92_3, s92_4, s92_5, s92_6, s92_7, s92_8, s92_9, s92_10, s92_11, s92_28, s92_29, s92_30, s92_31, s92_32, s92_35, x92, ho3_119, f66_121, f68_123, f70_125, f126, hi⟩
  refine wp_seq_k fun K128 hK128 => ?_
  refine rgs mixed 115 [.eq (.int .i64 (i : Int)), .eq (.slice Q3 ((varsL L 104).length) cq3), .eq (.int .i64 ((varsL L 104).length : Int)), .eq (.bool (decide ((i : Int) < ((varsL L 104).length : Int))))] [[(11, none)], [(5, none)], [(37, some 1)], [(36, some 0), (38, some 2)]] d92 z92 (by kernel_rfl) ⟨Ov rfl rfl fun _ _ T ⟨k11, _⟩ => ex_move (k11.trans s92_11),
   Ov rfl rfl fun _ _ T ⟨k5, _⟩ => ex_move (k5.trans s92_5),
   Ov rfl rfl fun _ _ T ⟨k37, _⟩ => ex_len (cons_ops k37 nil_ops) Try.underlying47,
   Ov rfl rfl fun _ _ T ⟨k36, k38, _⟩ => ex_lss k36 k38,
   trivial⟩ ?_
  intro a129 w129 d129 z129 t129 e129 q129
  by_cases c130 : (i : Int) < ((varsL L 104).length : Int)
  ·have y130 := decide_eq_true c130
   have s131_39 : a129.eval (.tmp 39) = .bool (decide ((i : Int) < ((varsL L 104).length : Int))) := e129.2.2.2.1
   refine wp_cond_true (s131_39.trans (by rw [y130])) ?_
   refine wp_skip ?_
   repeat (with_reducible refine block_norm ?_)
   refine hK128 _ _ ?_
   refine wp_seq_k fun K132 hK132 => ?_
   refine wp_block ?_
   have hvm := vars_mem (n := 104) (L := L) (at_mem (L := (varsL L 104)) (d := 0) (i := (i : Int)) (by omega) (by omega))
   have s133_10 := ((q129 10 rfl).trans s92_10)
   have s134_5 := ((q129 5 rfl).trans s92_5)
   have s135_11 := ((q129 11 rfl).trans s92_11)
   have ho3_136 := (own_keep ho3_119 t129)
   have s137_9 := ((q129 9 rfl).trans s92_9)
   have f126_139 := (own_keep f126 t129)
   obtain ⟨cs138, hcs138, hle138, hput138⟩ := own_put (x' := decide ((((w0 : Int).fdiv (2 ^ min ((((varsL L 104).length : Int) - 1) - (i : Int)).toNat IntKind.i64.bits)).tmod 2) = 1)) (vs := [.bool (decide ((((w0 : Int).fdiv (2 ^ min ((((varsL L 104).length : Int) - 1) - (i : Int)).toNat IntKind.i64.bits)).tmod 2) = 1))]) f126_139 rfl bov1_1 (by decide) (at_some' (d := false) (i := (at_ (varsL L 104) (0 : Int) (i : Int))) ((bitsV_len _ _).symm) (by omega) (by omega)) 0 (Nat.le_of_ble_eq_true rfl) rfl
   refine rt mixed 115 b77 15 _ [.eq (.slice (some ⟨b77, 0, none⟩) 104 104), .eq (.slice Q3 ((varsL L 104).length) cq3), .eq (.int .i64 (i : Int)), .eq (.pointer (some ⟨(rowB Q3), Int.toNat (i : Int) * 1, none⟩)), .eq (.int .i64 (at_ (varsL L 104) (0 : Int) (i : Int))), .eq (.int .i64 (w0 : Int)), .eq (.slice Q3 ((varsL L 104).length) cq3), .eq (.int .i64 ((varsL L 104).length : Int)), .eq (.int .i64 (((varsL L 104).length : Int) - 1)), .eq (.int .i64 (i : Int)), .eq (.int .i64 ((((varsL L 104).length : Int) - 1) - (i : Int))), .eq (.int .i64 ((w0 : Int).fdiv (2 ^ min ((((varsL L 104).length : Int) - 1) - (i : Int)).toNat IntKind.i64.bits))), .eq (.int .i64 (((w0 : Int).fdiv (2 ^ min ((((varsL L 104).length : Int) - 1) - (i : Int)).toNat IntKind.i64.bits)).tmod 2)), .eq (.bool (decide ((((w0 : Int).fdiv (2 ^ min ((((varsL L 104).length : Int) - 1) - (i : Int)).toNat IntKind.i64.bits)).tmod 2) = 1))), .eq (.pointer (some ⟨b77, Int.toNat (at_ (varsL L 104) (0 : Int) (i : Int)) * 1, none⟩)), .any] [[(10, none)], [(5, none)], [(11, none)], [(43, some 1), (44, some 2)], [(45, some 3)], [(9, none)], [(5, none)], [(48, some 6)], [(49, some 7)], [(11, none)], [(50, some 8), (51, some 9)], [(47, some 5), (52, some 10)], [(53, some 11)], [(54, some 12)], [(42, some 0), (46, some 4)], [(56, some 14), (55, some 13)]] d129 z129 (by kernel_rfl) rfl ⟨Oh rfl (by kernel_rfl) rfl fun _ _ T ⟨k10, _⟩ => ex_move (k10.trans s133_10),
    Oh rfl (by kernel_rfl) rfl fun _ _ T ⟨k5, _⟩ => ex_move (k5.trans s134_5),
    Oh rfl (by kernel_rfl) rfl fun _ _ T ⟨k11, _⟩ => ex_move (k11.trans s135_11),
    Oh rfl (by kernel_rfl) rfl fun _ _ T ⟨k43, k44, _⟩ => ex_ixa Try.underlying47 (Try.sizeOf3 _) k43 (own_eqA ho3_136 (by omega)) k44 (by omega) (by omega),
    Oh rfl (by kernel_rfl) rfl fun _ _ T ⟨k45, _⟩ => ex_load k45 (Try.isAgg3 _) (own_at (own_keep ho3_136 T) (own_eqA ho3_136 (by omega)) inv1_1 (at_some' (d := (0 : Int)) (by rfl) (by omega) (by omega)) 0 rfl),
    Oh rfl (by kernel_rfl) rfl fun _ _ T ⟨k9, _⟩ => ex_move (k9.trans s137_9),
    Oh rfl (by kernel_rfl) rfl fun _ _ T ⟨k5, _⟩ => ex_move (k5.trans s134_5),
    Oh rfl (by kernel_rfl) rfl fun _ _ T ⟨k48, _⟩ => ex_len (cons_ops k48 nil_ops) Try.underlying47,
    Oh rfl (by kernel_rfl) rfl fun _ _ T ⟨k49, _⟩ => ex_sub64 k49 rfl (by omega),
    Oh rfl (by kernel_rfl) rfl fun _ _ T ⟨k11, _⟩ => ex_move (k11.trans s135_11),
    Oh rfl (by kernel_rfl) rfl fun _ _ T ⟨k50, k51, _⟩ => ex_sub64 k50 k51 (by omega),
    Oh rfl (by kernel_rfl) rfl fun _ _ T ⟨k47, k52, _⟩ => ex_shr k47 k52 (by omega),
    Oh rfl (by kernel_rfl) rfl fun _ _ T ⟨k53, _⟩ => ex_rem k53 rfl (by omega),
    Oh rfl (by kernel_rfl) rfl fun _ _ T ⟨k54, _⟩ => ex_eql k54 rfl,
    Oh rfl (by kernel_rfl) rfl fun _ _ T ⟨k42, k46, _⟩ => ex_ixa Try.underlying52 (Try.sizeOf4 _) k42 rfl k46 (by omega) (by omega),
    Ot (cs := cs138) (vs := [.bool (decide ((((w0 : Int).fdiv (2 ^ min ((((varsL L 104).length : Int) - 1) - (i : Int)).toNat IntKind.i64.bits)).tmod 2) = 1))]) (cs' := putCells cs138 (Int.toNat (at_ (varsL L 104) (0 : Int) (i : Int)) * 1 + 0) [.bool (decide ((((w0 : Int).fdiv (2 ^ min ((((varsL L 104).length : Int) - 1) - (i : Int)).toNat IntKind.i64.bits)).tmod 2) = 1))]) (by kernel_rfl) hcs138 Try.sizeOf4 rfl rfl (by decide) hle138 rfl rfl fun _ _ T ⟨k56, k55, _⟩ => ⟨k56, k55⟩,
    trivial⟩ ?_
   intro a140 w140 d140 z140 t140 e140 q140
   have ho141 := hput138 _ t140
   repeat (with_reducible refine block_norm ?_)
   refine hK132 _ _ ?_
   have s142_11 := ((q140 11 rfl).trans s135_11)
   refine rg mixed 115 [.eq (.int .i64 (i : Int)), .eq (.int .i64 ((i : Int) + 1)), .eq (.int .i64 ((i : Int) + 1))] [[(11, none)], [(40, some 0)], [(41, some 1)]] d140 z140 (by kernel_rfl) ⟨Ov rfl rfl fun _ _ T ⟨k11, _⟩ => ex_move (k11.trans s142_11), Ov rfl rfl fun _ _ T ⟨k40, _⟩ => ex_add64 k40 rfl (by omega), Ov rfl rfl fun _ _ T ⟨k41, _⟩ => ex_assign k41, trivial⟩ ?_
   intro a143 w143 d143 z143 t143 e143 q143
   repeat (with_reducible refine block_norm ?_)
   have s144_0 := ((q143 0 rfl).trans ((q140 0 rfl).trans ((q129 0 rfl).trans s92_0)))
   have s145_2 := ((q143 2 rfl).trans ((q140 2 rfl).trans ((q129 2 rfl).trans s92_2)))
   have s146_3 := ((q143 3 rfl).trans ((q140 3 rfl).trans ((q129 3 rfl).trans s92_3)))
   have s147_4 := ((q143 4 rfl).trans ((q140 4 rfl).trans ((q129 4 rfl).trans s92_4)))
   have s148_5 := ((q143 5 rfl).trans ((q140 5 rfl).trans s134_5))
   have s149_6 := ((q143 6 rfl).trans ((q140 6 rfl).trans ((q129 6 rfl).trans s92_6)))
   have s150_7 := ((q143 7 rfl).trans ((q140 7 rfl).trans ((q129 7 rfl).trans s92_7)))
   have s151_8 := ((q143 8 rfl).trans ((q140 8 rfl).trans ((q129 8 rfl).trans s92_8)))
   have s152_9 := ((q143 9 rfl).trans ((q140 9 rfl).trans s137_9))
   have s153_10 := ((q143 10 rfl).trans ((q140 10 rfl).trans s133_10))
   have s154_11 : a143.eval (.tmp 11) = .int .i64 ((i : Int) + 1) := e143.2.2.1
   have s155_28 := ((q143 28 rfl).trans ((q140 28 rfl).trans ((q129 28 rfl).trans s92_28)))
   have s156_29 := ((q143 29 rfl).trans ((q140 29 rfl).trans ((q129 29 rfl).trans s92_29)))
   have s157_30 := ((q143 30 rfl).trans ((q140 30 rfl).trans ((q129 30 rfl).trans s92_30)))
   have s158_31 := ((q143 31 rfl).trans ((q140 31 rfl).trans ((q129 31 rfl).trans s92_31)))
   have s159_32 := ((q143 32 rfl).trans ((q140 32 rfl).trans ((q129 32 rfl).trans s92_32)))
   have s160_35 := ((q143 35 rfl).trans ((q140 35 rfl).trans ((q129 35 rfl).trans s92_35)))
   have x161 := (Touch.trans (Touch.turn (Touch.trans x92 (Ext.touch t129)) t140 (Or.inr yb77_86)) (Ext.touch t143))
   have ho3_162 := (own_keep (own_touch ho3_136 t140.touch (fun jQ hQ eQ => no78 jQ hQ eQ)) t143)
   have f66_163 := (own_keep (own_touch (own_keep f66_121 t129) t140.touch (fun jQ hQ eQ => n80_b12_b77 ((Option.some.inj hQ).trans eQ))) t143)
   have f68_164 := (own_keep (own_touch (own_keep f68_123 t129) t140.touch (fun jQ hQ eQ => n82_b21_b77 ((Option.some.inj hQ).trans eQ))) t143)
   have f70_165 := (own_keep (own_touch (own_keep f70_125 t129) t140.touch (fun jQ hQ eQ => n84_b32_b77 ((Option.some.inj hQ).trans eQ))) t143)
   have ho141_166 := (own_keep ho141 t143)
   refine then_norm ?_
   refine ⟨_, ⟨i + 1, rfl, d143, z143, s144_0, s145_2, s146_3, s147_4, s148_5, s149_6, s150_7, s151_8, s152_9, s153_10, (s154_11.trans (by first | rfl | (congr 1; omega) | (simp; omega) | simp)), s155_28, s156_29, s157_30, s158_31, s159_32, s160_35, x161, ho3_162, f66_163, f68_164, f70_165, (by have hh := ho141_166; rw [apN_next]; rw [bit_i64 (w := w0) (k := (varsL L 104).length) (i := i) (by omega) (by omega) rfl] at hh; rw [set_bitsV hvm.1 (by omega)] at hh; exact hh), by omega⟩, ?_⟩; (show _ < _); rw [hmu92]; exact by omega
  ·have y130 := decide_eq_false c130
   have s167_39 : a129.eval (.tmp 39) = .bool (decide ((i : Int) < ((varsL L 104).length : Int))) := e129.2.2.2.1
   refine wp_cond_false (s167_39.trans (by rw [y130])) ?_
   refine wp_exit ?_
   repeat (first | (with_reducible refine then_exit ?_) | (with_reducible refine block_here ?_) | (with_reducible refine block_past rfl ?_))
   refine hK90 _ _ ?_
   have hib : apN (varsL L 104) w0 i = wayW L w0 := by rw [show i = (varsL L 104).length by omega]; rfl
   refine wp_seq ?_
   refine seq_begin ?_
   refine sp z129 rfl rfl (ex_move ((q129 10 rfl).trans s92_10)) ?_; intro a168 u168 z168
   have f126_170 := (own_keep f126 t129)
   refine scx z168 rfl rfl (exl_call Try.func72 rfl rfl (cons_ops (u168.here _ rfl) nil_ops)) (c_BackV (Reads.of_own f126_170) hib) ?_; intro w169 a169 t169 u169 z169
   refine salloc z169 rfl (zv_31 _) ?_; intro b171 w171 a171 t171 g171 hb171 u171 z171
   have ho3_173 := (own_keep (own_keep ho3_119 t129) t169)
   have no172 := no_new ho3_173 g171
   have f66_175 := (own_keep (own_keep f66_121 t129) t169)
   have n174_b12_b171 := ne_lt (own_lt f66_175 rfl) g171
   have f68_177 := (own_keep (own_keep f68_123 t129) t169)
   have n176_b21_b171 := ne_lt (own_lt f68_177 rfl) g171
   have f70_179 := (own_keep (own_keep f70_125 t129) t169)
   have n178_b32_b171 := ne_lt (own_lt f70_179 rfl) g171
   have f126_181 := (own_keep f126_170 t169)
   have n180_b77_b171 := ne_lt (own_lt f126_181 rfl) g171
   have x183 := (Touch.trans (Touch.trans x92 (Ext.touch t129)) (Ext.touch t169))
   have yb171_182 := Nat.le_trans (Touch.size x183) g171
   refine sstore (cs := [.int .u32 0, .int .u32 0, .int .u8 0, .int .u16 0, .int .u16 0]) (vs := [.int .u32 ((hmk (wayW L w0)).1), .int .u32 ((hmk (wayW L w0)).2.1), .int .u8 ((hmk (wayW L w0)).2.2.1), .int .u16 ((hmk (wayW L w0)).2.2.2.1), .int .u16 ((hmk (wayW L w0)).2.2.2.2)]) (cs' := [.int .u32 ((hmk (wayW L w0)).1), .int .u32 ((hmk (wayW L w0)).2.1), .int .u8 ((hmk (wayW L w0)).2.2.1), .int .u16 ((hmk (wayW L w0)).2.2.2.1), .int .u16 ((hmk (wayW L w0)).2.2.2.2)]) z171 rfl (u171.here _ rfl) ((u171.past 58 rfl).trans (u169.here _ rfl)) hb171 (Try.sizeOf31 _) rfl rfl (by decide) (Nat.le_of_ble_eq_true rfl) rfl rfl ?_; intro w184 a184 t184 u184 z184
   have d185 := (u184.defs.trans (u171.defs.trans (u169.defs.trans (u168.defs.trans d129))))
   refine seq_end ?_
   refine then_norm ?_
   refine wp_seq ?_
   refine seq_begin ?_
   have p187 := fr4 q129 u168.past u169.past u171.past
   refine sp z184 rfl rfl (ex_move ((u184.past 0 rfl).trans ((p187 0 rfl).trans s92_0))) ?_; intro a186 u186 z186
   refine sp z186 rfl rfl (ex_loadAgg (cs := [.int .u32 ((hmk (wayW L w0)).1), .int .u32 ((hmk (wayW L w0)).2.1), .int .u8 ((hmk (wayW L w0)).2.2.1), .int .u16 ((hmk (wayW L w0)).2.2.2.1), .int .u16 ((hmk (wayW L w0)).2.2.2.2)]) ((u186.past 12 rfl).trans ((u184.past 12 rfl).trans (u171.here _ rfl))) (Try.isAgg31 _) (Try.sizeOf31 _) (cells_of (off := 0) t184.here rfl)) ?_; intro a188 u188 z188
   have x191 := (Touch.turn (Touch.trans x183 (Ext.touch t171)) t184 (Or.inr yb171_182))
   have rd190 := Reads.touch HR x191 (by decide) (reads_noF _ _)
   refine sc z188 rfl rfl (exl_call Try.func73 rfl rfl (cons_ops ((u188.past 59 rfl).trans (u186.here _ rfl)) (cons_ops (u188.here _ rfl) nil_ops))) (c_In06 rd190 rfl hc hR (by omega) (hmk_ok _)) ?_
   rintro e189 w189 ⟨A189, c189, he189, ho189, t189, hb189⟩; refine ⟨_, he189, ?_⟩; intro a189 u189 z189
   have ho3_193 := (own_touch (own_keep ho3_173 t171) t184.touch (fun jQ hQ eQ => no172 jQ hQ eQ))
   have no192 := row_nor (hb189) (fun jQ hQ => own_lt ho3_193 hQ)
   have f66_195 := (own_touch (own_keep f66_175 t171) t184.touch (fun jQ hQ eQ => n174_b12_b171 ((Option.some.inj hQ).trans eQ)))
   have no194 := row_no (hb189) (own_lt f66_195 rfl)
   have f68_197 := (own_touch (own_keep f68_177 t171) t184.touch (fun jQ hQ eQ => n176_b21_b171 ((Option.some.inj hQ).trans eQ)))
   have no196 := row_no (hb189) (own_lt f68_197 rfl)
   have f70_199 := (own_touch (own_keep f70_179 t171) t184.touch (fun jQ hQ eQ => n178_b32_b171 ((Option.some.inj hQ).trans eQ)))
   have no198 := row_no (hb189) (own_lt f70_199 rfl)
   have f126_201 := (own_touch (own_keep f126_181 t171) t184.touch (fun jQ hQ eQ => n180_b77_b171 ((Option.some.inj hQ).trans eQ)))
   have no200 := row_no (hb189) (own_lt f126_201 rfl)
   have no202 := row_no (hb189) (lt_of t184.here)
   have no203 := row_base (hb189) (Touch.size x191)
   refine sp z189 rfl rfl (ex_assign (u189.here _ rfl)) ?_; intro a204 u204 z204
   have d205 := (u204.defs.trans (u189.defs.trans (u188.defs.trans (u186.defs.trans d185))))
   refine seq_end ?_
   refine then_norm ?_
   refine rgs mixed 115 [.eq (.int .i64 0)] [[]] d205 z204 (by kernel_rfl) ⟨Ov rfl rfl fun _ _ T _ => ex_assign rfl, trivial⟩ ?_
   intro a206 w206 d206 z206 t206 e206 q206
   refine wp_block ?_
   have p209 := fr4 u184.past u186.past u188.past u189.past
   have s208_0 := ((q206 0 rfl).trans ((u204.past 0 rfl).trans ((p209 0 rfl).trans ((p187 0 rfl).trans s92_0))))
   have s210_2 := ((q206 2 rfl).trans ((u204.past 2 rfl).trans ((p209 2 rfl).trans ((p187 2 rfl).trans s92_2))))
   have s211_3 := ((q206 3 rfl).trans ((u204.past 3 rfl).trans ((p209 3 rfl).trans ((p187 3 rfl).trans s92_3))))
   have s212_4 := ((q206 4 rfl).trans ((u204.past 4 rfl).trans ((p209 4 rfl).trans ((p187 4 rfl).trans s92_4))))
   have s213_5 := ((q206 5 rfl).trans ((u204.past 5 rfl).trans ((p209 5 rfl).trans ((p187 5 rfl).trans s92_5))))
   have s214_6 := ((q206 6 rfl).trans ((u204.past 6 rfl).trans ((p209 6 rfl).trans ((p187 6 rfl).trans s92_6))))
   have s215_7 := ((q206 7 rfl).trans ((u204.past 7 rfl).trans ((p209 7 rfl).trans ((p187 7 rfl).trans s92_7))))
   have s216_8 := ((q206 8 rfl).trans ((u204.past 8 rfl).trans ((p209 8 rfl).trans ((p187 8 rfl).trans s92_8))))
   have s217_9 := ((q206 9 rfl).trans ((u204.past 9 rfl).trans ((p209 9 rfl).trans ((p187 9 rfl).trans s92_9))))
   have s218_10 := ((q206 10 rfl).trans ((u204.past 10 rfl).trans ((p209 10 rfl).trans ((p187 10 rfl).trans s92_10))))
   have s219_11 := ((q206 11 rfl).trans ((u204.past 11 rfl).trans ((p209 11 rfl).trans ((p187 11 rfl).trans s92_11))))
   have s220_12 : a171.eval (.tmp 12) = .pointer (some ⟨b171, 0, none⟩) := (u171.here _ rfl)
   have s221_12 := ((q206 12 rfl).trans ((u204.past 12 rfl).trans ((p209 12 rfl).trans s220_12)))
   have s222_13 : a204.eval (.tmp 13) = .slice A189 L.length c189 := (u204.here _ rfl)
   have s223_13 := ((q206 13 rfl).trans s222_13)
   have s224_14 : a206.eval (.tmp 14) = .int .i64 0 := e206.1
   have s225_28 := ((q206 28 rfl).trans ((u204.past 28 rfl).trans ((p209 28 rfl).trans ((p187 28 rfl).trans s92_28))))
   have s226_29 := ((q206 29 rfl).trans ((u204.past 29 rfl).trans ((p209 29 rfl).trans ((p187 29 rfl).trans s92_29))))
   have s227_30 := ((q206 30 rfl).trans ((u204.past 30 rfl).trans ((p209 30 rfl).trans ((p187 30 rfl).trans s92_30))))
   have s228_31 := ((q206 31 rfl).trans ((u204.past 31 rfl).trans ((p209 31 rfl).trans ((p187 31 rfl).trans s92_31))))
   have s229_32 := ((q206 32 rfl).trans ((u204.past 32 rfl).trans ((p209 32 rfl).trans ((p187 32 rfl).trans s92_32))))
   have s230_35 := ((q206 35 rfl).trans ((u204.past 35 rfl).trans ((p209 35 rfl).trans ((p187 35 rfl).trans s92_35))))
   have s231_36 : a129.eval (.tmp 36) = .int .i64 (i : Int) := e129.1
   have s232_36 := ((q206 36 rfl).trans ((u204.past 36 rfl).trans ((p209 36 rfl).trans ((u171.past 36 rfl).trans ((u169.past 36 rfl).trans ((u168.past 36 rfl).trans s231_36))))))
   have s233_37 : a129.eval (.tmp 37) = .slice Q3 ((varsL L 104).length) cq3 := e129.2.1
   have s234_37 := ((q206 37 rfl).trans ((u204.past 37 rfl).trans ((p209 37 rfl).trans ((u171.past 37 rfl).trans ((u169.past 37 rfl).trans ((u168.past 37 rfl).trans s233_37))))))
   have s235_38 : a129.eval (.tmp 38) = .int .i64 ((varsL L 104).length : Int) := e129.2.2.1
   have s236_38 := ((q206 38 rfl).trans ((u204.past 38 rfl).trans ((p209 38 rfl).trans ((u171.past 38 rfl).trans ((u169.past 38 rfl).trans ((u168.past 38 rfl).trans s235_38))))))
   have s237_39 := ((q206 39 rfl).trans ((u204.past 39 rfl).trans ((p209 39 rfl).trans ((u171.past 39 rfl).trans ((u169.past 39 rfl).trans ((u168.past 39 rfl).trans s167_39))))))
   have s238_57 : a168.eval (.tmp 57) = .slice (some ⟨b77, 0, none⟩) 104 104 := (u168.here _ rfl)
   have s239_57 := ((q206 57 rfl).trans ((u204.past 57 rfl).trans ((p209 57 rfl).trans ((u171.past 57 rfl).trans ((u169.past 57 rfl).trans s238_57)))))
   have s240_58 : a169.eval (.tmp 58) = .agg #[.int .u32 ((hmk (wayW L w0)).1), .int .u32 ((hmk (wayW L w0)).2.1), .int .u8 ((hmk (wayW L w0)).2.2.1), .int .u16 ((hmk (wayW L w0)).2.2.2.1), .int .u16 ((hmk (wayW L w0)).2.2.2.2)] := (u169.here _ rfl)
   have s241_58 := ((q206 58 rfl).trans ((u204.past 58 rfl).trans ((p209 58 rfl).trans ((u171.past 58 rfl).trans s240_58))))
   have s242_59 : a186.eval (.tmp 59) = .slice Q L.length cq := (u186.here _ rfl)
   have s243_59 := ((q206 59 rfl).trans ((u204.past 59 rfl).trans ((u189.past 59 rfl).trans ((u188.past 59 rfl).trans s242_59))))
   have s244_60 : a188.eval (.tmp 60) = .agg #[.int .u32 ((hmk (wayW L w0)).1), .int .u32 ((hmk (wayW L w0)).2.1), .int .u8 ((hmk (wayW L w0)).2.2.1), .int .u16 ((hmk (wayW L w0)).2.2.2.1), .int .u16 ((hmk (wayW L w0)).2.2.2.2)] := (u188.here _ rfl)
   have s245_60 := ((q206 60 rfl).trans ((u204.past 60 rfl).trans ((u189.past 60 rfl).trans s244_60)))
   have s246_61 : a189.eval (.tmp 61) = .slice A189 L.length c189 := (u189.here _ rfl)
   have s247_61 := ((q206 61 rfl).trans ((u204.past 61 rfl).trans s246_61))
   have x248 := (Touch.trans (Touch.trans x191 (Ext.touch t189)) (Ext.touch t206))
   have ho3_249 := (own_keep (own_keep ho3_193 t189) t206)
   have f126_251 := (own_keep (own_keep f126_201 t189) t206)
   have t184.here_253 := (Ext.keep t206 (Ext.keep t189 t184.here))
   have ho189_255 := (own_keep ho189 t206)
   have f66_258 := (own_keep (own_keep f66_195 t189) t206)
   have f68_260 := (own_keep (own_keep f68_197 t189) t206)
   have f70_262 := (own_keep (own_keep f70_199 t189) t206)
   refine wp_loopg (σ := Nat) (fun nQ aQ wQ => ∃ k : Nat, ∃ N1 : List Int, ∃ M1 : List H5, ∃ S1 : List Bool, nQ = (L.length - k) ∧
    aQ.defers = [] ∧
    aQ.tmps.size = 115 ∧
    aQ.eval (.tmp 0) = .slice Q L.length cq ∧
    aQ.eval (.tmp 2) = .slice none 0 0 ∧
    aQ.eval (.tmp 3) = .slice none 0 0 ∧
    aQ.eval (.tmp 4) = .slice none 0 0 ∧
    aQ.eval (.tmp 5) = .slice Q3 ((varsL L 104).length) cq3 ∧
    aQ.eval (.tmp 6) = .slice (some ⟨b12, 0, none⟩) L.length L.length ∧
    aQ.eval (.tmp 7) = .slice (some ⟨b21, 0, none⟩) L.length L.length ∧
    aQ.eval (.tmp 8) = .slice (some ⟨b32, 0, none⟩) L.length L.length ∧
    aQ.eval (.tmp 9) = .int .i64 (w0 : Int) ∧
    aQ.eval (.tmp 10) = .slice (some ⟨b77, 0, none⟩) 104 104 ∧
    aQ.eval (.tmp 11) = .int .i64 (i : Int) ∧
    aQ.eval (.tmp 12) = .pointer (some ⟨b171, 0, none⟩) ∧
    aQ.eval (.tmp 13) = .slice A189 L.length c189 ∧
    aQ.eval (.tmp 14) = .int .i64 (k : Int) ∧
    aQ.eval (.tmp 28) = .int .i64 (w0 : Int) ∧
    aQ.eval (.tmp 29) = .slice Q3 ((varsL L 104).length) cq3 ∧
    aQ.eval (.tmp 30) = .int .i64 ((varsL L 104).length : Int) ∧
    aQ.eval (.tmp 31) = .int .i64 (IntKind.i64.wrap (1 * 2 ^ min (((varsL L 104).length : Int)).toNat IntKind.i64.bits)) ∧
    aQ.eval (.tmp 32) = .bool (decide ((w0 : Int) < (IntKind.i64.wrap (1 * 2 ^ min (((varsL L 104).length : Int)).toNat IntKind.i64.bits)))) ∧
    aQ.eval (.tmp 35) = .slice (some ⟨b77, 0, none⟩) 104 104 ∧
    aQ.eval (.tmp 36) = .int .i64 (i : Int) ∧
    aQ.eval (.tmp 37) = .slice Q3 ((varsL L 104).length) cq3 ∧
    aQ.eval (.tmp 38) = .int .i64 ((varsL L 104).length : Int) ∧
    aQ.eval (.tmp 39) = .bool (decide ((i : Int) < ((varsL L 104).length : Int))) ∧
    aQ.eval (.tmp 57) = .slice (some ⟨b77, 0, none⟩) 104 104 ∧
    aQ.eval (.tmp 58) = .agg #[.int .u32 ((hmk (wayW L w0)).1), .int .u32 ((hmk (wayW L w0)).2.1), .int .u8 ((hmk (wayW L w0)).2.2.1), .int .u16 ((hmk (wayW L w0)).2.2.2.1), .int .u16 ((hmk (wayW L w0)).2.2.2.2)] ∧
    aQ.eval (.tmp 59) = .slice Q L.length cq ∧
    aQ.eval (.tmp 60) = .agg #[.int .u32 ((hmk (wayW L w0)).1), .int .u32 ((hmk (wayW L w0)).2.1), .int .u8 ((hmk (wayW L w0)).2.2.1), .int .u16 ((hmk (wayW L w0)).2.2.2.1), .int .u16 ((hmk (wayW L w0)).2.2.2.2)] ∧
    aQ.eval (.tmp 61) = .slice A189 L.length c189 ∧
    Touch (NoF) w wQ ∧
    wQ.ownsRow 0 3 1 (.slice Q3 ((varsL L 104).length) cq3) ((varsL L 104).length) (flat inv1 (varsL L 104)) ∧
    wQ.ownsRow 0 4 1 (.slice (some ⟨b77, 0, none⟩) 104 104) (104) (flat bov1 (bitsV (apN (varsL L 104) w0 i) 104)) ∧
    wQ.heap[b171]? = some (.cells #[.int .u32 ((hmk (wayW L w0)).1), .int .u32 ((hmk (wayW L w0)).2.1), .int .u8 ((hmk (wayW L w0)).2.2.1), .int .u16 ((hmk (wayW L w0)).2.2.2.1), .int .u16 ((hmk (wayW L w0)).2.2.2.2)] 31 (0, 0)) ∧
    wQ.ownsRow 0 4 1 (.slice A189 L.length c189) (L.length) (flat bov1 (semT L (hB (hmk (wayW L w0))) L.length)) ∧
    wQ.ownsRow 0 3 1 (.slice (some ⟨b12, 0, none⟩) L.length L.length) L.length (flat inv1 N1) ∧
    wQ.ownsRow 0 31 5 (.slice (some ⟨b21, 0, none⟩) L.length L.length) L.length (flat h5v M1) ∧
    wQ.ownsRow 0 4 1 (.slice (some ⟨b32, 0, none⟩) L.length L.length) L.length (flat bov1 S1) ∧
    (k ≤ L.length) ∧
    (CtInv L L.length w0 k N1 M1 S1)) (fun nQ => nQ) _ ⟨0, N0, M0, S0, rfl, d206, z206, s208_0, s210_2, s211_3, s212_4, s213_5, s214_6, s215_7, s216_8, s217_9, s218_10, s219_11, s221_12, s223_13, (s224_14.trans (by first | rfl | (congr 1; omega) | (simp; omega) | simp)), s225_28, s226_29, s227_30, s228_31, s229_32, s230_35, s232_36, s234_37, s236_38, s237_39, s239_57, s241_58, s243_59, s245_60, s247_61, x248, ho3_249, f126_251, t184.here_253, ho189_255, f66_258, f68_260, f70_262, Nat.zero_le _, hct0⟩ ?_
   rintro nQ207 a207 w207 ⟨k, N1, M1, S1, hmu207, d207, z207, s207_0, s207_2, s207_3, s207_4, s207_5, s207_6, s207_7, s207_8, s207_9, s207_10, s207_11, s207_12, s207_13, s207_14, s207_28, s207_29, s207_30, s207_31, s207_32, s207_35, s207_36, s207_37, s207_38, s207_39, s207_57, s207_58, s207_59, s207_60, s207_61, x207, ho3_250, f126_252, t184_254, ho189_256, f257, f259, f261, hk, hct1⟩
   refine wp_seq_k fun K263 hK263 => ?_
   refine rgs mixed 115 [.eq (.int .i64 (k : Int)), .eq (.slice Q L.length cq), .eq (.int .i64 (L.length : Int)), .eq (.bool (decide ((k : Int) < (L.length : Int))))] [[(14, none)], [(0, none)], [(63, some 1)], [(62, some 0), (64, some 2)]] d207 z207 (by kernel_rfl) ⟨Ov rfl rfl fun _ _ T ⟨k14, _⟩ => ex_move (k14.trans s207_14),
    Ov rfl rfl fun _ _ T ⟨k0, _⟩ => ex_move (k0.trans s207_0),
    Ov rfl rfl fun _ _ T ⟨k63, _⟩ => ex_len (cons_ops k63 nil_ops) Try.underlying45,
    Ov rfl rfl fun _ _ T ⟨k62, k64, _⟩ => ex_lss k62 k64,
    trivial⟩ ?_
   intro a264 w264 d264 z264 t264 e264 q264
   by_cases c265 : (k : Int) < (L.length : Int)
   ·have y265 := decide_eq_true c265
    have s266_65 : a264.eval (.tmp 65) = .bool (decide ((k : Int) < (L.length : Int))) := e264.2.2.2.1
    refine wp_cond_true (s266_65.trans (by rw [y265])) ?_
    refine wp_skip ?_
    repeat (with_reducible refine block_norm ?_)
    refine hK263 _ _ ?_
    refine wp_seq_k fun K267 hK267 => ?_
    refine wp_block ?_
    have s268_13 := ((q264 13 rfl).trans s207_13)
    have s269_14 := ((q264 14 rfl).trans s207_14)
    have ho189_270 := (own_keep ho189_256 t264)
    refine rgs mixed 115 [.eq (.slice A189 L.length c189), .eq (.int .i64 (k : Int)), .eq (.pointer (some ⟨(rowB A189), Int.toNat (k : Int) * 1, none⟩)), .eq (.bool (at_ (semT L (hB (hmk (wayW L w0))) L.length) false (k : Int)))] [[(13, none)], [(14, none)], [(68, some 0), (69, some 1)], [(70, some 2)]] d264 z264 (by kernel_rfl) ⟨Ov rfl rfl fun _ _ T ⟨k13, _⟩ => ex_move (k13.trans s268_13),
     Ov rfl rfl fun _ _ T ⟨k14, _⟩ => ex_move (k14.trans s269_14),
     Ov rfl rfl fun _ _ T ⟨k68, k69, _⟩ => ex_ixa Try.underlying52 (Try.sizeOf4 _) k68 (own_eqA ho189_270 (by omega)) k69 (by omega) (by omega),
     Ov rfl rfl fun _ _ T ⟨k70, _⟩ => ex_load k70 (Try.isAgg4 _) (own_at (own_keep ho189_270 T.ext) (own_eqA ho189_270 (by omega)) bov1_1 (at_some' (d := false) ((semT_len _ _ _).symm) (by omega) (by omega)) 0 rfl),
     trivial⟩ ?_
    intro a271 w271 d271 z271 t271 e271 q271
    have x272 := (Touch.trans (Touch.trans x207 (Ext.touch t264)) (Ext.touch t271))
    rcases Bool.eq_false_or_eq_true ((at_ (semT L (hB (hmk (wayW L w0))) L.length) false (k : Int))) with y273 | y273
    ·have c273 := y273
     have s274_71 : a271.eval (.tmp 71) = .bool (at_ (semT L (hB (hmk (wayW L w0))) L.length) false (k : Int)) := e271.2.2.2.1
     refine wp_cond_true (s274_71.trans (by rw [y273])) ?_
     have han1 := hct1.an (k : Int) (by omega) (by omega); rw [if_neg (by omega)] at han1; have hcl := cntW_le L (k : Int) w0
     refine wp_seq ?_
     refine seq_begin ?_
     refine sp z271 rfl rfl (ex_move ((q271 6 rfl).trans ((q264 6 rfl).trans s207_6))) ?_; intro a275 u275 z275
     refine sp z275 rfl rfl (ex_move ((u275.past 14 rfl).trans ((q271 14 rfl).trans s269_14))) ?_; intro a276 u276 z276
     refine sp z276 rfl rfl (ex_ixa Try.underlying47 (Try.sizeOf3 _) ((u276.past 72 rfl).trans (u275.here _ rfl)) rfl (u276.here _ rfl) (by omega) (by omega)) ?_; intro a277 u277 z277
     have f257_279 := (own_keep (own_keep f257 t264) t271)
     refine sp z277 rfl rfl (ex_load (u277.here _ rfl) (Try.isAgg3 _) (own_at f257_279 rfl inv1_1 (at_some' (d := (0 : Int)) (hct1.ln.symm) (by omega) (by omega)) 0 rfl)) ?_; intro a278 u278 z278
     refine sp z278 rfl rfl (ex_add64 (u278.here _ rfl) rfl (by omega)) ?_; intro a280 u280 z280
     refine sp z280 rfl rfl (ex_ixa Try.underlying47 (Try.sizeOf3 _) ((u280.past 72 rfl).trans ((u278.past 72 rfl).trans ((u277.past 72 rfl).trans ((u276.past 72 rfl).trans (u275.here _ rfl))))) rfl ((u280.past 73 rfl).trans ((u278.past 73 rfl).trans ((u277.past 73 rfl).trans (u276.here _ rfl)))) (by omega) (by omega)) ?_; intro a281 u281 z281
     obtain ⟨cs283, hcs283, hle283, hput283⟩ := own_put (x' := (at_ N1 (0 : Int) (k : Int)) + 1) (vs := [.int .i64 ((at_ N1 (0 : Int) (k : Int)) + 1)]) f257_279 rfl inv1_1 (by decide) (at_some' (d := (0 : Int)) (i := (k : Int)) (hct1.ln.symm) (by omega) (by omega)) 0 (Nat.le_of_ble_eq_true rfl) rfl
     refine sstore (cs := cs283) (vs := [.int .i64 ((at_ N1 (0 : Int) (k : Int)) + 1)]) (cs' := putCells cs283 (Int.toNat (k : Int) * 1 + 0) [.int .i64 ((at_ N1 (0 : Int) (k : Int)) + 1)]) z281 rfl (u281.here _ rfl) ((u281.past 76 rfl).trans (u280.here _ rfl)) hcs283 (Try.sizeOf3 _) rfl rfl (by decide) hle283 rfl rfl ?_; intro w282 a282 t282 u282 z282
     have ho284 := hput283 _ t282
     have d285 := (u282.defs.trans (u281.defs.trans (u280.defs.trans (u278.defs.trans (u277.defs.trans (u276.defs.trans (u275.defs.trans d271)))))))
     refine seq_end ?_
     refine then_norm ?_
     have p287 := fr4 q264 q271 u275.past u276.past
     have p288 := fr4 u277.past u278.past u280.past u281.past
     have s286_8 := ((u282.past 8 rfl).trans ((p288 8 rfl).trans ((p287 8 rfl).trans s207_8)))
     have s289_14 := ((u282.past 14 rfl).trans ((p288 14 rfl).trans ((u276.past 14 rfl).trans ((u275.past 14 rfl).trans ((q271 14 rfl).trans s269_14)))))
     have f261_290 := (own_touch (own_keep (own_keep f261 t264) t271) t282.touch (fun jQ hQ eQ => (Ne.symm n35_b12_b32) ((Option.some.inj hQ).trans eQ)))
     refine rgs mixed 115 [.eq (.slice (some ⟨b32, 0, none⟩) L.length L.length), .eq (.int .i64 (k : Int)), .eq (.pointer (some ⟨b32, Int.toNat (k : Int) * 1, none⟩)), .eq (.bool (at_ S1 false (k : Int))), .eq (.bool (!(at_ S1 false (k : Int))))] [[(8, none)], [(14, none)], [(78, some 0), (79, some 1)], [(80, some 2)], [(81, some 3)]] d285 z282 (by kernel_rfl) ⟨Ov rfl rfl fun _ _ T ⟨k8, _⟩ => ex_move (k8.trans s286_8),
      Ov rfl rfl fun _ _ T ⟨k14, _⟩ => ex_move (k14.trans s289_14),
      Ov rfl rfl fun _ _ T ⟨k78, k79, _⟩ => ex_ixa Try.underlying52 (Try.sizeOf4 _) k78 rfl k79 (by omega) (by omega),
      Ov rfl rfl fun _ _ T ⟨k80, _⟩ => ex_load k80 (Try.isAgg4 _) (own_at (own_keep f261_290 T.ext) rfl bov1_1 (at_some' (d := false) (hct1.ls.symm) (by omega) (by omega)) 0 rfl),
      Ov rfl rfl fun _ _ T ⟨k81, _⟩ => ex_not k81,
      trivial⟩ ?_
     intro a291 w291 d291 z291 t291 e291 q291
     have s292_0 := ((q291 0 rfl).trans ((u282.past 0 rfl).trans ((p288 0 rfl).trans ((p287 0 rfl).trans s207_0))))
     have s293_2 := ((q291 2 rfl).trans ((u282.past 2 rfl).trans ((p288 2 rfl).trans ((p287 2 rfl).trans s207_2))))
     have s294_3 := ((q291 3 rfl).trans ((u282.past 3 rfl).trans ((p288 3 rfl).trans ((p287 3 rfl).trans s207_3))))
     have s295_4 := ((q291 4 rfl).trans ((u282.past 4 rfl).trans ((p288 4 rfl).trans ((p287 4 rfl).trans s207_4))))
     have s296_5 := ((q291 5 rfl).trans ((u282.past 5 rfl).trans ((p288 5 rfl).trans ((p287 5 rfl).trans s207_5))))
     have s297_6 := ((q291 6 rfl).trans ((u282.past 6 rfl).trans ((p288 6 rfl).trans ((p287 6 rfl).trans s207_6))))
     have s298_7 := ((q291 7 rfl).trans ((u282.past 7 rfl).trans ((p288 7 rfl).trans ((p287 7 rfl).trans s207_7))))
     have s299_9 := ((q291 9 rfl).trans ((u282.past 9 rfl).trans ((p288 9 rfl).trans ((p287 9 rfl).trans s207_9))))
     have s300_10 := ((q291 10 rfl).trans ((u282.past 10 rfl).trans ((p288 10 rfl).trans ((p287 10 rfl).trans s207_10))))
     have s301_11 := ((q291 11 rfl).trans ((u282.past 11 rfl).trans ((p288 11 rfl).trans ((p287 11 rfl).trans s207_11))))
     have s302_12 := ((q291 12 rfl).trans ((u282.past 12 rfl).trans ((p288 12 rfl).trans ((p287 12 rfl).trans s207_12))))
     have s303_13 := ((q291 13 rfl).trans ((u282.past 13 rfl).trans ((p288 13 rfl).trans ((u276.past 13 rfl).trans ((u275.past 13 rfl).trans ((q271 13 rfl).trans s268_13))))))
     have s304_28 := ((q291 28 rfl).trans ((u282.past 28 rfl).trans ((p288 28 rfl).trans ((p287 28 rfl).trans s207_28))))
     have s305_29 := ((q291 29 rfl).trans ((u282.past 29 rfl).trans ((p288 29 rfl).trans ((p287 29 rfl).trans s207_29))))
     have s306_30 := ((q291 30 rfl).trans ((u282.past 30 rfl).trans ((p288 30 rfl).trans ((p287 30 rfl).trans s207_30))))
     have s307_31 := ((q291 31 rfl).trans ((u282.past 31 rfl).trans ((p288 31 rfl).trans ((p287 31 rfl).trans s207_31))))
     have s308_32 := ((q291 32 rfl).trans ((u282.past 32 rfl).trans ((p288 32 rfl).trans ((p287 32 rfl).trans s207_32))))
     have s309_35 := ((q291 35 rfl).trans ((u282.past 35 rfl).trans ((p288 35 rfl).trans ((p287 35 rfl).trans s207_35))))
     have s310_36 := ((q291 36 rfl).trans ((u282.past 36 rfl).trans ((p288 36 rfl).trans ((p287 36 rfl).trans s207_36))))
     have s311_37 := ((q291 37 rfl).trans ((u282.past 37 rfl).trans ((p288 37 rfl).trans ((p287 37 rfl).trans s207_37))))
     have s312_38 := ((q291 38 rfl).trans ((u282.past 38 rfl).trans ((p288 38 rfl).trans ((p287 38 rfl).trans s207_38))))
     have s313_39 := ((q291 39 rfl).trans ((u282.past 39 rfl).trans ((p288 39 rfl).trans ((p287 39 rfl).trans s207_39))))
     have s314_57 := ((q291 57 rfl).trans ((u282.past 57 rfl).trans ((p288 57 rfl).trans ((p287 57 rfl).trans s207_57))))
     have s315_58 := ((q291 58 rfl).trans ((u282.past 58 rfl).trans ((p288 58 rfl).trans ((p287 58 rfl).trans s207_58))))
     have s316_59 := ((q291 59 rfl).trans ((u282.past 59 rfl).trans ((p288 59 rfl).trans ((p287 59 rfl).trans s207_59))))
     have s317_60 := ((q291 60 rfl).trans ((u282.past 60 rfl).trans ((p288 60 rfl).trans ((p287 60 rfl).trans s207_60))))
     have s318_61 := ((q291 61 rfl).trans ((u282.past 61 rfl).trans ((p288 61 rfl).trans ((p287 61 rfl).trans s207_61))))
     have ho3_319 := (own_keep (own_touch (own_keep (own_keep ho3_250 t264) t271) t282.touch (fun jQ hQ eQ => no13 jQ hQ eQ)) t291)
     have f126_320 := (own_keep (own_touch (own_keep (own_keep f126_252 t264) t271) t282.touch (fun jQ hQ eQ => (Ne.symm n80_b12_b77) ((Option.some.inj hQ).trans eQ))) t291)
     have t184_321 := (Ext.keep t291 (Turn.keep t282 (Ext.keep t271 (Ext.keep t264 t184_254)) (Ne.symm n174_b12_b171)))
     have ho189_322 := (own_keep (own_touch (own_keep ho189_270 t271) t282.touch (fun jQ hQ eQ => no194 jQ hQ eQ)) t291)
     have f259_323 := (own_keep (own_touch (own_keep (own_keep f259 t264) t271) t282.touch (fun jQ hQ eQ => (Ne.symm n24_b12_b21) ((Option.some.inj hQ).trans eQ))) t291)
     have x324 := (Touch.trans (Touch.turn x272 t282 (Or.inr yb12_14)) (Ext.touch t291))
     rcases Bool.eq_false_or_eq_true (!(at_ S1 false (k : Int))) with y325 | y325
     ·have c325 := y325
      have s326_82 : a291.eval (.tmp 82) = .bool (!(at_ S1 false (k : Int))) := e291.2.2.2.2.1
      refine wp_cond_true (s326_82.trans (by rw [y325])) ?_
      refine wp_seq ?_
      refine seq_begin ?_
      refine sp z291 rfl rfl (ex_move s298_7) ?_; intro a327 u327 z327
      refine sp z327 rfl rfl (ex_move ((u327.past 14 rfl).trans ((q291 14 rfl).trans s289_14))) ?_; intro a328 u328 z328
      refine sp z328 rfl rfl (ex_loadAgg (cs := [.int .u32 ((hmk (wayW L w0)).1), .int .u32 ((hmk (wayW L w0)).2.1), .int .u8 ((hmk (wayW L w0)).2.2.1), .int .u16 ((hmk (wayW L w0)).2.2.2.1), .int .u16 ((hmk (wayW L w0)).2.2.2.2)]) ((u328.past 12 rfl).trans ((u327.past 12 rfl).trans s302_12)) (Try.isAgg31 _) (Try.sizeOf31 _) (cells_of (off := 0) t184_321 rfl)) ?_; intro a329 u329 z329
      refine sp z329 rfl rfl (ex_ixa Try.underlying51 (Try.sizeOf31 _) ((u329.past 83 rfl).trans ((u328.past 83 rfl).trans (u327.here _ rfl))) rfl ((u329.past 84 rfl).trans (u328.here _ rfl)) (by omega) (by omega)) ?_; intro a330 u330 z330
      obtain ⟨cs332, hcs332, hle332, hput332⟩ := own_put (x' := (hmk (wayW L w0))) (vs := [.int .u32 ((hmk (wayW L w0)).1), .int .u32 ((hmk (wayW L w0)).2.1), .int .u8 ((hmk (wayW L w0)).2.2.1), .int .u16 ((hmk (wayW L w0)).2.2.2.1), .int .u16 ((hmk (wayW L w0)).2.2.2.2)]) f259_323 rfl h5v_5 (by decide) (at_some' (d := h50) (i := (k : Int)) (hct1.lm.symm) (by omega) (by omega)) 0 (Nat.le_of_ble_eq_true rfl) rfl
      refine sstore (cs := cs332) (vs := [.int .u32 ((hmk (wayW L w0)).1), .int .u32 ((hmk (wayW L w0)).2.1), .int .u8 ((hmk (wayW L w0)).2.2.1), .int .u16 ((hmk (wayW L w0)).2.2.2.1), .int .u16 ((hmk (wayW L w0)).2.2.2.2)]) (cs' := putCells cs332 (Int.toNat (k : Int) * 5 + 0) [.int .u32 ((hmk (wayW L w0)).1), .int .u32 ((hmk (wayW L w0)).2.1), .int .u8 ((hmk (wayW L w0)).2.2.1), .int .u16 ((hmk (wayW L w0)).2.2.2.1), .int .u16 ((hmk (wayW L w0)).2.2.2.2)]) z330 rfl (u330.here _ rfl) ((u330.past 85 rfl).trans (u329.here _ rfl)) hcs332 (Try.sizeOf31 _) rfl rfl (by decide) hle332 rfl rfl ?_; intro w331 a331 t331 u331 z331
      have ho333 := hput332 _ t331
      have d334 := (u331.defs.trans (u330.defs.trans (u329.defs.trans (u328.defs.trans (u327.defs.trans d291)))))
      refine seq_end ?_
      refine then_norm ?_
      refine seq_begin ?_
      refine sp z331 rfl rfl (ex_move ((u331.past 8 rfl).trans ((u330.past 8 rfl).trans ((u329.past 8 rfl).trans ((u328.past 8 rfl).trans ((u327.past 8 rfl).trans ((q291 8 rfl).trans s286_8))))))) ?_; intro a335 u335 z335
      have p337 := fr4 u329.past u330.past u331.past u335.past
      refine sp z335 rfl rfl (ex_move ((p337 14 rfl).trans ((u328.past 14 rfl).trans ((u327.past 14 rfl).trans ((q291 14 rfl).trans s289_14))))) ?_; intro a336 u336 z336
      refine sp z336 rfl rfl (ex_ixa Try.underlying52 (Try.sizeOf4 _) ((u336.past 87 rfl).trans (u335.here _ rfl)) rfl (u336.here _ rfl) (by omega) (by omega)) ?_; intro a338 u338 z338
      have f261_341 := (own_touch (own_keep f261_290 t291) t331.touch (fun jQ hQ eQ => (Ne.symm n37_b21_b32) ((Option.some.inj hQ).trans eQ)))
      obtain ⟨cs340, hcs340, hle340, hput340⟩ := own_put (x' := true) (vs := [.bool true]) f261_341 rfl bov1_1 (by decide) (at_some' (d := false) (i := (k : Int)) (hct1.ls.symm) (by omega) (by omega)) 0 (Nat.le_of_ble_eq_true rfl) rfl
      refine sstore (cs := cs340) (vs := [.bool true]) (cs' := putCells cs340 (Int.toNat (k : Int) * 1 + 0) [.bool true]) z338 rfl (u338.here _ rfl) rfl hcs340 (Try.sizeOf4 _) rfl rfl (by decide) hle340 rfl rfl ?_; intro w339 a339 t339 u339 z339
      have ho342 := hput340 _ t339
      have d343 := (u339.defs.trans (u338.defs.trans (u336.defs.trans (u335.defs.trans d334))))
      refine seq_end ?_
      repeat (with_reducible refine block_norm ?_)
      refine hK267 _ _ ?_
      have s344_14 := ((u339.past 14 rfl).trans ((u338.past 14 rfl).trans ((u336.past 14 rfl).trans ((p337 14 rfl).trans ((u328.past 14 rfl).trans ((u327.past 14 rfl).trans ((q291 14 rfl).trans s289_14)))))))
      refine rg mixed 115 [.eq (.int .i64 (k : Int)), .eq (.int .i64 ((k : Int) + 1)), .eq (.int .i64 ((k : Int) + 1))] [[(14, none)], [(66, some 0)], [(67, some 1)]] d343 z339 (by kernel_rfl) ⟨Ov rfl rfl fun _ _ T ⟨k14, _⟩ => ex_move (k14.trans s344_14), Ov rfl rfl fun _ _ T ⟨k66, _⟩ => ex_add64 k66 rfl (by omega), Ov rfl rfl fun _ _ T ⟨k67, _⟩ => ex_assign k67, trivial⟩ ?_
      intro a345 w345 d345 z345 t345 e345 q345
      repeat (with_reducible refine block_norm ?_)
      have hsv := at_semT (L := L) (v := hB (hmk (wayW L w0))) (k := L.length) (j := (k : Int)) (by omega) (by omega)
      rw [sem_mk hR (by omega) (by omega)] at hsv
      have hS : at_ S1 false (k : Int) = false := by have hss := y325; simpa using hss
      have p347 := fr4 u336.past u338.past u339.past q345
      have s346_0 := ((p347 0 rfl).trans ((p337 0 rfl).trans ((u328.past 0 rfl).trans ((u327.past 0 rfl).trans s292_0))))
      have s348_2 := ((p347 2 rfl).trans ((p337 2 rfl).trans ((u328.past 2 rfl).trans ((u327.past 2 rfl).trans s293_2))))
      have s349_3 := ((p347 3 rfl).trans ((p337 3 rfl).trans ((u328.past 3 rfl).trans ((u327.past 3 rfl).trans s294_3))))
      have s350_4 := ((p347 4 rfl).trans ((p337 4 rfl).trans ((u328.past 4 rfl).trans ((u327.past 4 rfl).trans s295_4))))
      have s351_5 := ((p347 5 rfl).trans ((p337 5 rfl).trans ((u328.past 5 rfl).trans ((u327.past 5 rfl).trans s296_5))))
      have s352_6 := ((p347 6 rfl).trans ((p337 6 rfl).trans ((u328.past 6 rfl).trans ((u327.past 6 rfl).trans s297_6))))
      have s353_7 := ((p347 7 rfl).trans ((p337 7 rfl).trans ((u328.past 7 rfl).trans ((u327.past 7 rfl).trans s298_7))))
      have s354_8 := ((p347 8 rfl).trans ((p337 8 rfl).trans ((u328.past 8 rfl).trans ((u327.past 8 rfl).trans ((q291 8 rfl).trans s286_8)))))
      have s355_9 := ((p347 9 rfl).trans ((p337 9 rfl).trans ((u328.past 9 rfl).trans ((u327.past 9 rfl).trans s299_9))))
      have s356_10 := ((p347 10 rfl).trans ((p337 10 rfl).trans ((u328.past 10 rfl).trans ((u327.past 10 rfl).trans s300_10))))
      have s357_11 := ((p347 11 rfl).trans ((p337 11 rfl).trans ((u328.past 11 rfl).trans ((u327.past 11 rfl).trans s301_11))))
      have s358_12 := ((p347 12 rfl).trans ((p337 12 rfl).trans ((u328.past 12 rfl).trans ((u327.past 12 rfl).trans s302_12))))
      have s359_13 := ((p347 13 rfl).trans ((p337 13 rfl).trans ((u328.past 13 rfl).trans ((u327.past 13 rfl).trans s303_13))))
      have s360_14 : a345.eval (.tmp 14) = .int .i64 ((k : Int) + 1) := e345.2.2.1
      have s361_28 := ((p347 28 rfl).trans ((p337 28 rfl).trans ((u328.past 28 rfl).trans ((u327.past 28 rfl).trans s304_28))))
      have s362_29 := ((p347 29 rfl).trans ((p337 29 rfl).trans ((u328.past 29 rfl).trans ((u327.past 29 rfl).trans s305_29))))
      have s363_30 := ((p347 30 rfl).trans ((p337 30 rfl).trans ((u328.past 30 rfl).trans ((u327.past 30 rfl).trans s306_30))))
      have s364_31 := ((p347 31 rfl).trans ((p337 31 rfl).trans ((u328.past 31 rfl).trans ((u327.past 31 rfl).trans s307_31))))
      have s365_32 := ((p347 32 rfl).trans ((p337 32 rfl).trans ((u328.past 32 rfl).trans ((u327.past 32 rfl).trans s308_32))))
      have s366_35 := ((p347 35 rfl).trans ((p337 35 rfl).trans ((u328.past 35 rfl).trans ((u327.past 35 rfl).trans s309_35))))
      have s367_36 := ((p347 36 rfl).trans ((p337 36 rfl).trans ((u328.past 36 rfl).trans ((u327.past 36 rfl).trans s310_36))))
      have s368_37 := ((p347 37 rfl).trans ((p337 37 rfl).trans ((u328.past 37 rfl).trans ((u327.past 37 rfl).trans s311_37))))
      have s369_38 := ((p347 38 rfl).trans ((p337 38 rfl).trans ((u328.past 38 rfl).trans ((u327.past 38 rfl).trans s312_38))))
      have s370_39 := ((p347 39 rfl).trans ((p337 39 rfl).trans ((u328.past 39 rfl).trans ((u327.past 39 rfl).trans s313_39))))
      have s371_57 := ((p347 57 rfl).trans ((p337 57 rfl).trans ((u328.past 57 rfl).trans ((u327.past 57 rfl).trans s314_57))))
      have s372_58 := ((p347 58 rfl).trans ((p337 58 rfl).trans ((u328.past 58 rfl).trans ((u327.past 58 rfl).trans s315_58))))
      have s373_59 := ((p347 59 rfl).trans ((p337 59 rfl).trans ((u328.past 59 rfl).trans ((u327.past 59 rfl).trans s316_59))))
      have s374_60 := ((p347 60 rfl).trans ((p337 60 rfl).trans ((u328.past 60 rfl).trans ((u327.past 60 rfl).trans s317_60))))
      have s375_61 := ((p347 61 rfl).trans ((p337 61 rfl).trans ((u328.past 61 rfl).trans ((u327.past 61 rfl).trans s318_61))))
      have x376 := (Touch.trans (Touch.turn (Touch.turn x324 t331 (Or.inr yb21_25)) t339 (Or.inr yb32_38)) (Ext.touch t345))
      have ho3_377 := (own_keep (own_touch (own_touch ho3_319 t331.touch (fun jQ hQ eQ => no22 jQ hQ eQ)) t339.touch (fun jQ hQ eQ => no33 jQ hQ eQ)) t345)
      have f126_378 := (own_keep (own_touch (own_touch f126_320 t331.touch (fun jQ hQ eQ => (Ne.symm n82_b21_b77) ((Option.some.inj hQ).trans eQ))) t339.touch (fun jQ hQ eQ => (Ne.symm n84_b32_b77) ((Option.some.inj hQ).trans eQ))) t345)
      have t184_379 := (Ext.keep t345 (Turn.keep t339 (Turn.keep t331 t184_321 (Ne.symm n176_b21_b171)) (Ne.symm n178_b32_b171)))
      have ho189_380 := (own_keep (own_touch (own_touch ho189_322 t331.touch (fun jQ hQ eQ => no196 jQ hQ eQ)) t339.touch (fun jQ hQ eQ => no198 jQ hQ eQ)) t345)
      have ho284_381 := (own_keep (own_touch (own_touch (own_keep ho284 t291) t331.touch (fun jQ hQ eQ => n24_b12_b21 ((Option.some.inj hQ).trans eQ))) t339.touch (fun jQ hQ eQ => n35_b12_b32 ((Option.some.inj hQ).trans eQ))) t345)
      have ho333_382 := (own_keep (own_touch ho333 t339.touch (fun jQ hQ eQ => n37_b21_b32 ((Option.some.inj hQ).trans eQ))) t345)
      have ho342_383 := (own_keep ho342 t345)
      refine then_norm ?_
      refine ⟨_, ⟨k + 1, (List.set N1 (Int.toNat (k : Int)) ((at_ N1 (0 : Int) (k : Int)) + 1)), (List.set M1 (Int.toNat (k : Int)) (hmk (wayW L w0))), (List.set S1 (Int.toNat (k : Int)) true), rfl, d345, z345, s346_0, s348_2, s349_3, s350_4, s351_5, s352_6, s353_7, s354_8, s355_9, s356_10, s357_11, s358_12, s359_13, (s360_14.trans (by first | rfl | (congr 1; omega) | (simp; omega) | simp)), s361_28, s362_29, s363_30, s364_31, s365_32, s366_35, s367_36, s368_37, s369_38, s370_39, s371_57, s372_58, s373_59, s374_60, s375_61, x376, ho3_377, f126_378, t184_379, ho189_380, ho284_381, ho333_382, ho342_383, by omega, hct1.yes (by omega) (by rw [← hsv]; exact y273) rfl (by rw [hS]; rfl) (by rw [hS]; rfl)⟩, ?_⟩; (show _ < _); rw [hmu207]; exact by omega
     ·have c325 := y325
      have s384_82 : a291.eval (.tmp 82) = .bool (!(at_ S1 false (k : Int))) := e291.2.2.2.2.1
      refine wp_cond_false (s384_82.trans (by rw [y325])) ?_
      refine wp_skip ?_
      repeat (with_reducible refine block_norm ?_)
      refine hK267 _ _ ?_
      have s385_14 := ((q291 14 rfl).trans s289_14)
      refine rg mixed 115 [.eq (.int .i64 (k : Int)), .eq (.int .i64 ((k : Int) + 1)), .eq (.int .i64 ((k : Int) + 1))] [[(14, none)], [(66, some 0)], [(67, some 1)]] d291 z291 (by kernel_rfl) ⟨Ov rfl rfl fun _ _ T ⟨k14, _⟩ => ex_move (k14.trans s385_14), Ov rfl rfl fun _ _ T ⟨k66, _⟩ => ex_add64 k66 rfl (by omega), Ov rfl rfl fun _ _ T ⟨k67, _⟩ => ex_assign k67, trivial⟩ ?_
      intro a386 w386 d386 z386 t386 e386 q386
      repeat (with_reducible refine block_norm ?_)
      have hsv := at_semT (L := L) (v := hB (hmk (wayW L w0))) (k := L.length) (j := (k : Int)) (by omega) (by omega)
      rw [sem_mk hR (by omega) (by omega)] at hsv
      have hS : at_ S1 false (k : Int) = true := by have hss := y325; simpa using hss
      have s387_0 := ((q386 0 rfl).trans s292_0)
      have s388_2 := ((q386 2 rfl).trans s293_2)
      have s389_3 := ((q386 3 rfl).trans s294_3)
      have s390_4 := ((q386 4 rfl).trans s295_4)
      have s391_5 := ((q386 5 rfl).trans s296_5)
      have s392_6 := ((q386 6 rfl).trans s297_6)
      have s393_7 := ((q386 7 rfl).trans s298_7)
      have s394_8 := ((q386 8 rfl).trans ((q291 8 rfl).trans s286_8))
      have s395_9 := ((q386 9 rfl).trans s299_9)
      have s396_10 := ((q386 10 rfl).trans s300_10)
      have s397_11 := ((q386 11 rfl).trans s301_11)
      have s398_12 := ((q386 12 rfl).trans s302_12)
      have s399_13 := ((q386 13 rfl).trans s303_13)
      have s400_14 : a386.eval (.tmp 14) = .int .i64 ((k : Int) + 1) := e386.2.2.1
      have s401_28 := ((q386 28 rfl).trans s304_28)
      have s402_29 := ((q386 29 rfl).trans s305_29)
      have s403_30 := ((q386 30 rfl).trans s306_30)
      have s404_31 := ((q386 31 rfl).trans s307_31)
      have s405_32 := ((q386 32 rfl).trans s308_32)
      have s406_35 := ((q386 35 rfl).trans s309_35)
      have s407_36 := ((q386 36 rfl).trans s310_36)
      have s408_37 := ((q386 37 rfl).trans s311_37)
      have s409_38 := ((q386 38 rfl).trans s312_38)
      have s410_39 := ((q386 39 rfl).trans s313_39)
      have s411_57 := ((q386 57 rfl).trans s314_57)
      have s412_58 := ((q386 58 rfl).trans s315_58)
      have s413_59 := ((q386 59 rfl).trans s316_59)
      have s414_60 := ((q386 60 rfl).trans s317_60)
      have s415_61 := ((q386 61 rfl).trans s318_61)
      have x416 := (Touch.trans x324 (Ext.touch t386))
      have ho3_417 := (own_keep ho3_319 t386)
      have f126_418 := (own_keep f126_320 t386)
      have t184_419 := (Ext.keep t386 t184_321)
      have ho189_420 := (own_keep ho189_322 t386)
      have ho284_421 := (own_keep (own_keep ho284 t291) t386)
      have f259_422 := (own_keep f259_323 t386)
      have f261_423 := (own_keep (own_keep f261_290 t291) t386)
      refine then_norm ?_
      refine ⟨_, ⟨k + 1, (List.set N1 (Int.toNat (k : Int)) ((at_ N1 (0 : Int) (k : Int)) + 1)), M1, S1, rfl, d386, z386, s387_0, s388_2, s389_3, s390_4, s391_5, s392_6, s393_7, s394_8, s395_9, s396_10, s397_11, s398_12, s399_13, (s400_14.trans (by first | rfl | (congr 1; omega) | (simp; omega) | simp)), s401_28, s402_29, s403_30, s404_31, s405_32, s406_35, s407_36, s408_37, s409_38, s410_39, s411_57, s412_58, s413_59, s414_60, s415_61, x416, ho3_417, f126_418, t184_419, ho189_420, ho284_421, f259_422, f261_423, by omega, hct1.yes (by omega) (by rw [← hsv]; exact y273) rfl (by rw [hS]; rfl) (by rw [hS]; rfl)⟩, ?_⟩; (show _ < _); rw [hmu207]; exact by omega
    ·have c273 := y273
     have s424_71 : a271.eval (.tmp 71) = .bool (at_ (semT L (hB (hmk (wayW L w0))) L.length) false (k : Int)) := e271.2.2.2.1
     refine wp_cond_false (s424_71.trans (by rw [y273])) ?_
     refine wp_skip ?_
     repeat (with_reducible refine block_norm ?_)
     refine hK267 _ _ ?_
     have s425_14 := ((q271 14 rfl).trans s269_14)
     refine rg mixed 115 [.eq (.int .i64 (k : Int)), .eq (.int .i64 ((k : Int) + 1)), .eq (.int .i64 ((k : Int) + 1))] [[(14, none)], [(66, some 0)], [(67, some 1)]] d271 z271 (by kernel_rfl) ⟨Ov rfl rfl fun _ _ T ⟨k14, _⟩ => ex_move (k14.trans s425_14), Ov rfl rfl fun _ _ T ⟨k66, _⟩ => ex_add64 k66 rfl (by omega), Ov rfl rfl fun _ _ T ⟨k67, _⟩ => ex_assign k67, trivial⟩ ?_
     intro a426 w426 d426 z426 t426 e426 q426
     repeat (with_reducible refine block_norm ?_)
     have hsv := at_semT (L := L) (v := hB (hmk (wayW L w0))) (k := L.length) (j := (k : Int)) (by omega) (by omega)
     rw [sem_mk hR (by omega) (by omega)] at hsv
     have s427_0 := ((q426 0 rfl).trans ((q271 0 rfl).trans ((q264 0 rfl).trans s207_0)))
     have s428_2 := ((q426 2 rfl).trans ((q271 2 rfl).trans ((q264 2 rfl).trans s207_2)))
     have s429_3 := ((q426 3 rfl).trans ((q271 3 rfl).trans ((q264 3 rfl).trans s207_3)))
     have s430_4 := ((q426 4 rfl).trans ((q271 4 rfl).trans ((q264 4 rfl).trans s207_4)))
     have s431_5 := ((q426 5 rfl).trans ((q271 5 rfl).trans ((q264 5 rfl).trans s207_5)))
     have s432_6 := ((q426 6 rfl).trans ((q271 6 rfl).trans ((q264 6 rfl).trans s207_6)))
     have s433_7 := ((q426 7 rfl).trans ((q271 7 rfl).trans ((q264 7 rfl).trans s207_7)))
     have s434_8 := ((q426 8 rfl).trans ((q271 8 rfl).trans ((q264 8 rfl).trans s207_8)))
     have s435_9 := ((q426 9 rfl).trans ((q271 9 rfl).trans ((q264 9 rfl).trans s207_9)))
     have s436_10 := ((q426 10 rfl).trans ((q271 10 rfl).trans ((q264 10 rfl).trans s207_10)))
     have s437_11 := ((q426 11 rfl).trans ((q271 11 rfl).trans ((q264 11 rfl).trans s207_11)))
     have s438_12 := ((q426 12 rfl).trans ((q271 12 rfl).trans ((q264 12 rfl).trans s207_12)))
     have s439_13 := ((q426 13 rfl).trans ((q271 13 rfl).trans s268_13))
     have s440_14 : a426.eval (.tmp 14) = .int .i64 ((k : Int) + 1) := e426.2.2.1
     have s441_28 := ((q426 28 rfl).trans ((q271 28 rfl).trans ((q264 28 rfl).trans s207_28)))
     have s442_29 := ((q426 29 rfl).trans ((q271 29 rfl).trans ((q264 29 rfl).trans s207_29)))
     have s443_30 := ((q426 30 rfl).trans ((q271 30 rfl).trans ((q264 30 rfl).trans s207_30)))
     have s444_31 := ((q426 31 rfl).trans ((q271 31 rfl).trans ((q264 31 rfl).trans s207_31)))
     have s445_32 := ((q426 32 rfl).trans ((q271 32 rfl).trans ((q264 32 rfl).trans s207_32)))
     have s446_35 := ((q426 35 rfl).trans ((q271 35 rfl).trans ((q264 35 rfl).trans s207_35)))
     have s447_36 := ((q426 36 rfl).trans ((q271 36 rfl).trans ((q264 36 rfl).trans s207_36)))
     have s448_37 := ((q426 37 rfl).trans ((q271 37 rfl).trans ((q264 37 rfl).trans s207_37)))
     have s449_38 := ((q426 38 rfl).trans ((q271 38 rfl).trans ((q264 38 rfl).trans s207_38)))
     have s450_39 := ((q426 39 rfl).trans ((q271 39 rfl).trans ((q264 39 rfl).trans s207_39)))
     have s451_57 := ((q426 57 rfl).trans ((q271 57 rfl).trans ((q264 57 rfl).trans s207_57)))
     have s452_58 := ((q426 58 rfl).trans ((q271 58 rfl).trans ((q264 58 rfl).trans s207_58)))
     have s453_59 := ((q426 59 rfl).trans ((q271 59 rfl).trans ((q264 59 rfl).trans s207_59)))
     have s454_60 := ((q426 60 rfl).trans ((q271 60 rfl).trans ((q264 60 rfl).trans s207_60)))
     have s455_61 := ((q426 61 rfl).trans ((q271 61 rfl).trans ((q264 61 rfl).trans s207_61)))
     have x456 := (Touch.trans x272 (Ext.touch t426))
     have ho3_457 := (own_keep (own_keep (own_keep ho3_250 t264) t271) t426)
     have f126_458 := (own_keep (own_keep (own_keep f126_252 t264) t271) t426)
     have t184_459 := (Ext.keep t426 (Ext.keep t271 (Ext.keep t264 t184_254)))
     have ho189_460 := (own_keep (own_keep ho189_270 t271) t426)
     have f257_461 := (own_keep (own_keep (own_keep f257 t264) t271) t426)
     have f259_462 := (own_keep (own_keep (own_keep f259 t264) t271) t426)
     have f261_463 := (own_keep (own_keep (own_keep f261 t264) t271) t426)
     refine then_norm ?_
     refine ⟨_, ⟨k + 1, N1, M1, S1, rfl, d426, z426, s427_0, s428_2, s429_3, s430_4, s431_5, s432_6, s433_7, s434_8, s435_9, s436_10, s437_11, s438_12, s439_13, (s440_14.trans (by first | rfl | (congr 1; omega) | (simp; omega) | simp)), s441_28, s442_29, s443_30, s444_31, s445_32, s446_35, s447_36, s448_37, s449_38, s450_39, s451_57, s452_58, s453_59, s454_60, s455_61, x456, ho3_457, f126_458, t184_459, ho189_460, f257_461, f259_462, f261_463, by omega, hct1.no (by omega) (by rw [← hsv]; exact y273)⟩, ?_⟩; (show _ < _); rw [hmu207]; exact by omega
   ·have y265 := decide_eq_false c265
    have s464_65 : a264.eval (.tmp 65) = .bool (decide ((k : Int) < (L.length : Int))) := e264.2.2.2.1
    refine wp_cond_false (s464_65.trans (by rw [y265])) ?_
    refine wp_exit ?_
    repeat (first | (with_reducible refine then_exit ?_) | (with_reducible refine block_here ?_) | (with_reducible refine block_past rfl ?_))
    have hkk : k = L.length := by omega
    have hdone := (show CtInv L L.length w0 L.length N1 M1 S1 from by rw [hkk] at hct1; exact hct1).wrap
    refine hK76 _ _ ?_
    have s465_9 := ((q264 9 rfl).trans s207_9)
    refine rg mixed 115 [.eq (.int .i64 (w0 : Int)), .eq (.int .i64 ((w0 : Int) + 1)), .eq (.int .i64 ((w0 : Int) + 1))] [[(9, none)], [(33, some 0)], [(34, some 1)]] d264 z264 (by kernel_rfl) ⟨Ov rfl rfl fun _ _ T ⟨k9, _⟩ => ex_move (k9.trans s465_9), Ov rfl rfl fun _ _ T ⟨k33, _⟩ => ex_add64 k33 rfl (by omega), Ov rfl rfl fun _ _ T ⟨k34, _⟩ => ex_assign k34, trivial⟩ ?_
    intro a466 w466 d466 z466 t466 e466 q466
    repeat (with_reducible refine block_norm ?_)
    have s467_0 := ((q466 0 rfl).trans ((q264 0 rfl).trans s207_0))
    have s468_2 := ((q466 2 rfl).trans ((q264 2 rfl).trans s207_2))
    have s469_3 := ((q466 3 rfl).trans ((q264 3 rfl).trans s207_3))
    have s470_4 := ((q466 4 rfl).trans ((q264 4 rfl).trans s207_4))
    have s471_5 := ((q466 5 rfl).trans ((q264 5 rfl).trans s207_5))
    have s472_6 := ((q466 6 rfl).trans ((q264 6 rfl).trans s207_6))
    have s473_7 := ((q466 7 rfl).trans ((q264 7 rfl).trans s207_7))
    have s474_8 := ((q466 8 rfl).trans ((q264 8 rfl).trans s207_8))
    have s475_9 : a466.eval (.tmp 9) = .int .i64 ((w0 : Int) + 1) := e466.2.2.1
    have x476 := (Touch.trans (Touch.trans x207 (Ext.touch t264)) (Ext.touch t466))
    have ho3_477 := (own_keep (own_keep ho3_250 t264) t466)
    have f257_478 := (own_keep (own_keep f257 t264) t466)
    have f259_479 := (own_keep (own_keep f259 t264) t466)
    have f261_480 := (own_keep (own_keep f261 t264) t466)
    refine then_norm ?_
    refine ⟨_, ⟨w0 + 1, N1, M1, S1, rfl, d466, z466, s467_0, s468_2, s469_3, s470_4, s471_5, s472_6, s473_7, s474_8, (s475_9.trans (by first | rfl | (congr 1; omega) | (simp; omega) | simp)), x476, ho3_477, f257_478, f259_479, f261_480, by omega, hdone⟩, ?_⟩; (show _ < _); rw [hmu44]; exact by omega
 ·have y74 := decide_eq_false c74
  have s481_32 : a73.eval (.tmp 32) = .bool (decide ((w0 : Int) < (IntKind.i64.wrap (1 * 2 ^ min (((varsL L 104).length : Int)).toNat IntKind.i64.bits)))) := e73.2.2.2.2.1
  refine wp_cond_false (s481_32.trans (by rw [y74])) ?_
  refine wp_exit ?_
  repeat (first | (with_reducible refine then_exit ?_) | (with_reducible refine block_here ?_) | (with_reducible refine block_past rfl ?_))
  refine hK42 _ _ ?_
  refine wp_seq ?_
  refine seq_begin ?_
  refine sp z73 rfl rfl (ex_move ((q73 0 rfl).trans s44_0)) ?_; intro a482 u482 z482
  refine sp z482 rfl rfl (ex_len (cons_ops (u482.here _ rfl) nil_ops) Try.underlying45) ?_; intro a483 u483 z483
  refine smake (m := L.length) (bytes := 16) (zv := .agg #[.int .u64 c20.1, .int .u64 c20.2]) (enc := c2v) (z0 := c20) z483 rfl Try.underlying50 (by kernel_rfl) rfl rfl (by decide) (u483.here _ rfl) (u483.here _ rfl) (by omega) (by omega) ?_; intro b484 w484 a484 t484 g484 ho484 u484 z484
  have ho3_486 := (own_keep ho3_65 t73)
  have no485 := no_new ho3_486 g484
  have f66_488 := (own_keep f66 t73)
  have n487_b12_b484 := ne_lt (own_lt f66_488 rfl) g484
  have f68_490 := (own_keep f68 t73)
  have n489_b21_b484 := ne_lt (own_lt f68_490 rfl) g484
  have f70_492 := (own_keep f70 t73)
  have n491_b32_b484 := ne_lt (own_lt f70_492 rfl) g484
  have x494 := (Touch.trans x44 (Ext.touch t73))
  have yb484_493 := Nat.le_trans (Touch.size x494) g484
  refine sp z484 rfl rfl (ex_assign (u484.here _ rfl)) ?_; intro a495 u495 z495
  have d496 := (u495.defs.trans (u484.defs.trans (u483.defs.trans (u482.defs.trans d73))))
  refine seq_end ?_
  refine then_norm ?_
  refine wp_seq_k fun K497 hK497 => ?_
  refine rgs mixed 115 [.eq (.int .i64 0)] [[]] d496 z495 (by kernel_rfl) ⟨Ov rfl rfl fun _ _ T _ => ex_assign rfl, trivial⟩ ?_
  intro a498 w498 d498 z498 t498 e498 q498
  refine wp_block ?_
  have hwP : w0 = P := by have hge := c74; rw [hsh] at hge; omega
  have hk104 := vars_len L 104
  have p501 := fr4 q73 u482.past u483.past u484.past
  have s500_0 := ((q498 0 rfl).trans ((u495.past 0 rfl).trans ((p501 0 rfl).trans s44_0)))
  have s502_2 := ((q498 2 rfl).trans ((u495.past 2 rfl).trans ((p501 2 rfl).trans s44_2)))
  have s503_3 := ((q498 3 rfl).trans ((u495.past 3 rfl).trans ((p501 3 rfl).trans s44_3)))
  have s504_4 := ((q498 4 rfl).trans ((u495.past 4 rfl).trans ((p501 4 rfl).trans s44_4)))
  have s505_5 := ((q498 5 rfl).trans ((u495.past 5 rfl).trans ((p501 5 rfl).trans s44_5)))
  have s506_6 := ((q498 6 rfl).trans ((u495.past 6 rfl).trans ((p501 6 rfl).trans s44_6)))
  have s507_7 := ((q498 7 rfl).trans ((u495.past 7 rfl).trans ((p501 7 rfl).trans s44_7)))
  have s508_8 := ((q498 8 rfl).trans ((u495.past 8 rfl).trans ((p501 8 rfl).trans s44_8)))
  have s509_15 : a495.eval (.tmp 15) = .slice (some ⟨b484, 0, none⟩) L.length L.length := (u495.here _ rfl)
  have s510_15 := ((q498 15 rfl).trans s509_15)
  have s511_16 : a498.eval (.tmp 16) = .int .i64 0 := e498.1
  have x512 := (Touch.trans (Touch.trans x494 (Ext.touch t484)) (Ext.touch t498))
  have ho3_513 := (own_keep (own_keep ho3_486 t484) t498)
  have f66_515 := (own_keep (own_keep f66_488 t484) t498)
  have f68_517 := (own_keep (own_keep f68_490 t484) t498)
  have f70_519 := (own_keep (own_keep f70_492 t484) t498)
  have ho484_522 := (own_keep ho484 t498)
  refine wp_loopg (σ := Nat) (fun nQ aQ wQ => ∃ q : Nat, ∃ C1 : List (Int × Int), nQ = (L.length - q) ∧
   aQ.defers = [] ∧
   aQ.tmps.size = 115 ∧
   aQ.eval (.tmp 0) = .slice Q L.length cq ∧
   aQ.eval (.tmp 2) = .slice none 0 0 ∧
   aQ.eval (.tmp 3) = .slice none 0 0 ∧
   aQ.eval (.tmp 4) = .slice none 0 0 ∧
   aQ.eval (.tmp 5) = .slice Q3 ((varsL L 104).length) cq3 ∧
   aQ.eval (.tmp 6) = .slice (some ⟨b12, 0, none⟩) L.length L.length ∧
   aQ.eval (.tmp 7) = .slice (some ⟨b21, 0, none⟩) L.length L.length ∧
   aQ.eval (.tmp 8) = .slice (some ⟨b32, 0, none⟩) L.length L.length ∧
   aQ.eval (.tmp 15) = .slice (some ⟨b484, 0, none⟩) L.length L.length ∧
   aQ.eval (.tmp 16) = .int .i64 (q : Int) ∧
   Touch (NoF) w wQ ∧
   wQ.ownsRow 0 3 1 (.slice Q3 ((varsL L 104).length) cq3) ((varsL L 104).length) (flat inv1 (varsL L 104)) ∧
   wQ.ownsRow 0 3 1 (.slice (some ⟨b12, 0, none⟩) L.length L.length) (L.length) (flat inv1 N0) ∧
   wQ.ownsRow 0 31 5 (.slice (some ⟨b21, 0, none⟩) L.length L.length) (L.length) (flat h5v M0) ∧
   wQ.ownsRow 0 4 1 (.slice (some ⟨b32, 0, none⟩) L.length L.length) (L.length) (flat bov1 S0) ∧
   wQ.ownsRow 0 61 2 (.slice (some ⟨b484, 0, none⟩) L.length L.length) L.length (flat c2v C1) ∧
   (q ≤ L.length) ∧
   (CtC L q C1)) (fun nQ => nQ) _ ⟨0, (List.replicate L.length c20), rfl, d498, z498, s500_0, s502_2, s503_3, s504_4, s505_5, s506_6, s507_7, s508_8, s510_15, (s511_16.trans (by first | rfl | (congr 1; omega) | (simp; omega) | simp)), x512, ho3_513, f66_515, f68_517, f70_519, ho484_522, Nat.zero_le _, CtC.start L⟩ ?_
  rintro nQ499 a499 w499 ⟨q, C1, hmu499, d499, z499, s499_0, s499_2, s499_3, s499_4, s499_5, s499_6, s499_7, s499_8, s499_15, s499_16, x499, ho3_514, f66_516, f68_518, f70_520, f521, hq, hC⟩
  refine wp_seq_k fun K523 hK523 => ?_
  refine rgs mixed 115 [.eq (.int .i64 (q : Int)), .eq (.slice Q L.length cq), .eq (.int .i64 (L.length : Int)), .eq (.bool (decide ((q : Int) < (L.length : Int))))] [[(16, none)], [(0, none)], [(94, some 1)], [(93, some 0), (95, some 2)]] d499 z499 (by kernel_rfl) ⟨Ov rfl rfl fun _ _ T ⟨k16, _⟩ => ex_move (k16.trans s499_16),
   Ov rfl rfl fun _ _ T ⟨k0, _⟩ => ex_move (k0.trans s499_0),
   Ov rfl rfl fun _ _ T ⟨k94, _⟩ => ex_len (cons_ops k94 nil_ops) Try.underlying45,
   Ov rfl rfl fun _ _ T ⟨k93, k95, _⟩ => ex_lss k93 k95,
   trivial⟩ ?_
  intro a524 w524 d524 z524 t524 e524 q524
  by_cases c525 : (q : Int) < (L.length : Int)
  ·have y525 := decide_eq_true c525
   have s526_96 : a524.eval (.tmp 96) = .bool (decide ((q : Int) < (L.length : Int))) := e524.2.2.2.1
   refine wp_cond_true (s526_96.trans (by rw [y525])) ?_
   refine wp_skip ?_
   repeat (with_reducible refine block_norm ?_)
   refine hK523 _ _ ?_
   refine wp_seq_k fun K527 hK527 => ?_
   refine wp_block ?_
   have han := hct0.an (q : Int) (by omega) (by omega); rw [if_neg (by omega), hwP, hP] at han; have hcl : cntW L (q : Int) (2 ^ (varsL L 104).length) ≤ 128 := Nat.le_trans (cntW_le _ _ _) (by rw [← hP]; exact hP7)
   have hup := cnt_small L (q : Int) (by omega)
   refine seq_begin ?_
   refine sp z524 rfl rfl (ex_move ((q524 15 rfl).trans s499_15)) ?_; intro a528 u528 z528
   refine sp z528 rfl rfl (ex_move ((u528.past 16 rfl).trans ((q524 16 rfl).trans s499_16))) ?_; intro a529 u529 z529
   refine sp z529 rfl rfl (ex_move ((u529.past 6 rfl).trans ((u528.past 6 rfl).trans ((q524 6 rfl).trans s499_6)))) ?_; intro a530 u530 z530
   have p532 := fr4 q524 u528.past u529.past u530.past
   refine sp z530 rfl rfl (ex_move ((p532 16 rfl).trans s499_16)) ?_; intro a531 u531 z531
   refine sp z531 rfl rfl (ex_ixa Try.underlying47 (Try.sizeOf3 _) ((u531.past 101 rfl).trans (u530.here _ rfl)) rfl (u531.here _ rfl) (by omega) (by omega)) ?_; intro a533 u533 z533
   have f66_535 := (own_keep f66_516 t524)
   refine sp z533 rfl rfl (ex_load (u533.here _ rfl) (Try.isAgg3 _) (own_at f66_535 rfl inv1_1 (at_some' (d := (0 : Int)) (hct0.ln.symm) (by omega) (by omega)) 0 rfl)) ?_; intro a534 u534 z534
   refine sp z534 rfl rfl (ex_convert (u534.here _ rfl) (cvn_3_55 (by omega))) ?_; intro a536 u536 z536
   refine sp z536 rfl rfl (exl_build (cons_parts (u536.here _ rfl) nil_parts) (bd_61_1Iu64 (at_ N0 (0 : Int) (q : Int)) _)) ?_; intro a537 u537 z537
   have p539 := fr4 u531.past u533.past u534.past u536.past
   refine sp z537 rfl rfl (ex_move ((u537.past 5 rfl).trans ((p539 5 rfl).trans ((p532 5 rfl).trans s499_5)))) ?_; intro a538 u538 z538
   refine sp z538 rfl rfl (ex_len (cons_ops (u538.here _ rfl) nil_ops) Try.underlying47) ?_; intro a540 u540 z540
   refine sp z540 rfl rfl (ex_sub64 rfl (u540.here _ rfl) (by omega)) ?_; intro a541 u541 z541
   refine scx z541 rfl rfl (exl_call Try.func74 rfl rfl (cons_ops ((u541.past 106 rfl).trans ((u540.past 106 rfl).trans ((u538.past 106 rfl).trans (u537.here _ rfl)))) (cons_ops (u541.here _ rfl) nil_ops))) (c_wup0 (m := cntW L (q : Int) (2 ^ (varsL L 104).length)) (n := (104 - ((varsL L 104).length : Int))) han (by omega) (by omega) (by omega) hup _) ?_; intro w542 a542 t542 u542 z542
   have p544 := fr4 u537.past u538.past u540.past u541.past
   refine sp z542 rfl rfl (ex_ixa Try.underlying50 (Try.sizeOf61 _) ((u542.past 99 rfl).trans ((p544 99 rfl).trans ((p539 99 rfl).trans ((u530.past 99 rfl).trans ((u529.past 99 rfl).trans (u528.here _ rfl)))))) rfl ((u542.past 100 rfl).trans ((p544 100 rfl).trans ((p539 100 rfl).trans ((u530.past 100 rfl).trans (u529.here _ rfl))))) (by omega) (by omega)) ?_; intro a543 u543 z543
   have f521_547 := (own_keep (own_keep f521 t524) t542)
   obtain ⟨cs546, hcs546, hle546, hput546⟩ := own_put (x' := (hiW (cntW L (q : Int) (2 ^ (varsL L 104).length) * 2 ^ Int.toNat (104 - ((varsL L 104).length : Int))), loW (cntW L (q : Int) (2 ^ (varsL L 104).length) * 2 ^ Int.toNat (104 - ((varsL L 104).length : Int))))) (vs := [.int .u64 (hiW (cntW L (q : Int) (2 ^ (varsL L 104).length) * 2 ^ Int.toNat (104 - ((varsL L 104).length : Int)))), .int .u64 (loW (cntW L (q : Int) (2 ^ (varsL L 104).length) * 2 ^ Int.toNat (104 - ((varsL L 104).length : Int))))]) f521_547 rfl c2v_2 (by decide) (at_some' (d := c20) (i := (q : Int)) (hC.1.symm) (by omega) (by omega)) 0 (Nat.le_of_ble_eq_true rfl) rfl
   refine sstore (cs := cs546) (vs := [.int .u64 (hiW (cntW L (q : Int) (2 ^ (varsL L 104).length) * 2 ^ Int.toNat (104 - ((varsL L 104).length : Int)))), .int .u64 (loW (cntW L (q : Int) (2 ^ (varsL L 104).length) * 2 ^ Int.toNat (104 - ((varsL L 104).length : Int))))]) (cs' := putCells cs546 (Int.toNat (q : Int) * 2 + 0) [.int .u64 (hiW (cntW L (q : Int) (2 ^ (varsL L 104).length) * 2 ^ Int.toNat (104 - ((varsL L 104).length : Int)))), .int .u64 (loW (cntW L (q : Int) (2 ^ (varsL L 104).length) * 2 ^ Int.toNat (104 - ((varsL L 104).length : Int))))]) z543 rfl (u543.here _ rfl) ((u543.past 110 rfl).trans (u542.here _ rfl)) hcs546 (Try.sizeOf61 _) rfl rfl (by decide) hle546 rfl rfl ?_; intro w545 a545 t545 u545 z545
   have ho548 := hput546 _ t545
   have d549 := (u545.defs.trans (u543.defs.trans (u542.defs.trans (u541.defs.trans (u540.defs.trans (u538.defs.trans (u537.defs.trans (u536.defs.trans (u534.defs.trans (u533.defs.trans (u531.defs.trans (u530.defs.trans (u529.defs.trans (u528.defs.trans d524))))))))))))))
   refine seq_end ?_
   repeat (with_reducible refine block_norm ?_)
   refine hK527 _ _ ?_
   have s550_16 := ((u545.past 16 rfl).trans ((u543.past 16 rfl).trans ((u542.past 16 rfl).trans ((p544 16 rfl).trans ((p539 16 rfl).trans ((p532 16 rfl).trans s499_16))))))
   refine rg mixed 115 [.eq (.int .i64 (q : Int)), .eq (.int .i64 ((q : Int) + 1)), .eq (.int .i64 ((q : Int) + 1))] [[(16, none)], [(97, some 0)], [(98, some 1)]] d549 z545 (by kernel_rfl) ⟨Ov rfl rfl fun _ _ T ⟨k16, _⟩ => ex_move (k16.trans s550_16), Ov rfl rfl fun _ _ T ⟨k97, _⟩ => ex_add64 k97 rfl (by omega), Ov rfl rfl fun _ _ T ⟨k98, _⟩ => ex_assign k98, trivial⟩ ?_
   intro a551 w551 d551 z551 t551 e551 q551
   repeat (with_reducible refine block_norm ?_)
   have p553 := fr4 u542.past u543.past u545.past q551
   have p554 := fr4 p532 p539 p544 p553
   have s552_0 := ((p554 0 rfl).trans s499_0)
   have s555_2 := ((p554 2 rfl).trans s499_2)
   have s556_3 := ((p554 3 rfl).trans s499_3)
   have s557_4 := ((p554 4 rfl).trans s499_4)
   have s558_5 := ((p554 5 rfl).trans s499_5)
   have s559_6 := ((p554 6 rfl).trans s499_6)
   have s560_7 := ((p554 7 rfl).trans s499_7)
   have s561_8 := ((p554 8 rfl).trans s499_8)
   have s562_15 := ((p554 15 rfl).trans s499_15)
   have s563_16 : a551.eval (.tmp 16) = .int .i64 ((q : Int) + 1) := e551.2.2.1
   have x564 := (Touch.trans (Touch.turn (Touch.trans (Touch.trans x499 (Ext.touch t524)) (Ext.touch t542)) t545 (Or.inr yb484_493)) (Ext.touch t551))
   have ho3_565 := (own_keep (own_touch (own_keep (own_keep ho3_514 t524) t542) t545.touch (fun jQ hQ eQ => no485 jQ hQ eQ)) t551)
   have f66_566 := (own_keep (own_touch (own_keep f66_535 t542) t545.touch (fun jQ hQ eQ => n487_b12_b484 ((Option.some.inj hQ).trans eQ))) t551)
   have f68_567 := (own_keep (own_touch (own_keep (own_keep f68_518 t524) t542) t545.touch (fun jQ hQ eQ => n489_b21_b484 ((Option.some.inj hQ).trans eQ))) t551)
   have f70_568 := (own_keep (own_touch (own_keep (own_keep f70_520 t524) t542) t545.touch (fun jQ hQ eQ => n491_b32_b484 ((Option.some.inj hQ).trans eQ))) t551)
   have ho548_569 := (own_keep ho548 t551)
   refine then_norm ?_
   refine ⟨_, ⟨q + 1, (List.set C1 (Int.toNat (q : Int)) (hiW (cntW L (q : Int) (2 ^ (varsL L 104).length) * 2 ^ Int.toNat (104 - ((varsL L 104).length : Int))), loW (cntW L (q : Int) (2 ^ (varsL L 104).length) * 2 ^ Int.toNat (104 - ((varsL L 104).length : Int))))), rfl, d551, z551, s552_0, s555_2, s556_3, s557_4, s558_5, s559_6, s560_7, s561_8, s562_15, (s563_16.trans (by first | rfl | (congr 1; omega) | (simp; omega) | simp)), x564, ho3_565, f66_566, f68_567, f70_568, ho548_569, by omega, ct_next hC (by omega) (by rw [show (104 - ((varsL L 104).length : Int)).toNat = 104 - (varsL L 104).length by omega])⟩, ?_⟩; (show _ < _); rw [hmu499]; exact by omega
  ·have y525 := decide_eq_false c525
   have s570_96 : a524.eval (.tmp 96) = .bool (decide ((q : Int) < (L.length : Int))) := e524.2.2.2.1
   refine wp_cond_false (s570_96.trans (by rw [y525])) ?_
   refine wp_exit ?_
   repeat (first | (with_reducible refine then_exit ?_) | (with_reducible refine block_here ?_) | (with_reducible refine block_past rfl ?_))
   refine hK497 _ _ ?_
   have s571_15 := ((q524 15 rfl).trans s499_15)
   have s572_7 := ((q524 7 rfl).trans s499_7)
   have s573_8 := ((q524 8 rfl).trans s499_8)
   refine rgs mixed 115 [.eq (.slice (some ⟨b484, 0, none⟩) L.length L.length), .eq (.slice (some ⟨b21, 0, none⟩) L.length L.length), .eq (.slice (some ⟨b32, 0, none⟩) L.length L.length), .eq (.slice (some ⟨b484, 0, none⟩) L.length L.length), .eq (.slice (some ⟨b21, 0, none⟩) L.length L.length), .eq (.slice (some ⟨b32, 0, none⟩) L.length L.length)] [[(15, none)], [(7, none)], [(8, none)], [(112, some 0)], [(113, some 1)], [(114, some 2)]] d524 z524 (by kernel_rfl) ⟨Ov rfl rfl fun _ _ T ⟨k15, _⟩ => ex_move (k15.trans s571_15),
    Ov rfl rfl fun _ _ T ⟨k7, _⟩ => ex_move (k7.trans s572_7),
    Ov rfl rfl fun _ _ T ⟨k8, _⟩ => ex_move (k8.trans s573_8),
    Ov rfl rfl fun _ _ T ⟨k112, _⟩ => ex_assign k112,
    Ov rfl rfl fun _ _ T ⟨k113, _⟩ => ex_assign k113,
    Ov rfl rfl fun _ _ T ⟨k114, _⟩ => ex_assign k114,
    trivial⟩ ?_
   intro a574 w574 d574 z574 t574 e574 q574
   refine wp_ret ?_
   have s575_2 : a574.eval (.tmp 2) = .slice (some ⟨b484, 0, none⟩) L.length L.length := e574.2.2.2.1
   have s576_3 : a574.eval (.tmp 3) = .slice (some ⟨b21, 0, none⟩) L.length L.length := e574.2.2.2.2.1
   have s577_4 : a574.eval (.tmp 4) = .slice (some ⟨b32, 0, none⟩) L.length L.length := e574.2.2.2.2.2.1
   repeat (first | (with_reducible refine then_ret ?_) | (with_reducible refine block_ret ?_))
   refine rett (rs := [.tmp 2, .tmp 3, .tmp 4]) (vs := [.slice (some ⟨b484, 0, none⟩) L.length L.length, .slice (some ⟨b21, 0, none⟩) L.length L.length, .slice (some ⟨b32, 0, none⟩) L.length L.length]) Try.results23 ⟨s575_2, ⟨s576_3, ⟨s577_4, trivial⟩⟩⟩ (by simp) d574 ?_
   have f521_578 := (own_keep (own_keep f521 t524) t574)
   have f68_579 := (own_keep (own_keep f68_518 t524) t574)
   have f70_580 := (own_keep (own_keep f70_520 t524) t574)
   have x581 := (Touch.trans (Touch.trans x499 (Ext.touch t524)) (Ext.touch t574))
   have hqq : q = L.length := by omega
   subst hqq
   exact ⟨_, _, _, _, _, _, _, _, _, rfl, (x581).ext, hC.out (by rw [← hP, ← hwP]; exact hct0), f521_578, f68_579, f70_580, (by simp [Value.ownBlock]; omega), (by simp [Value.ownBlock]; omega), (by simp [Value.ownBlock]; omega)⟩

end Go.Proofs.Yticodddigaiipaa
