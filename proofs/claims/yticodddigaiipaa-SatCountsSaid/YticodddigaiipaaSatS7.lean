/-
 Contracts of functions of the given program, each proved by a walk through its code: what a call answers, and what it leaves of memory; conditions: those ahead of each theorem's colon.
-/
import Derived.Test.YticodddigaiipaaSatL14
set_option linter.unusedVariables false
set_option linter.unusedSimpArgs false
namespace Go.Proofs.Yticodddigaiipaa
open Go.RowKit
theorem bs_52_1_0B (x0 : Bool) (w : World) : (Instr.buildSlice 52 1 #[(0, .bool x0)]).run Try.prog w = .ok (.slice (some ⟨w.heap.size, 0, none⟩) 1 1) (w.alloc (.cells #[.bool x0] 4)) := by kernel_rfl
theorem el_52 : ElemOk Try.prog 52 4 1 1 := elemOk (z := .bool false) Try.underlying52 (by kernel_rfl) rfl (by decide)
theorem cv_5_22 {n : Int} {w : World} : (convert 5 22 (.int .u8 n)).run Try.prog w = .ok (.int .u32 (IntKind.u32.wrap n)) w := run_conv Try.underlying5 Try.underlying22
theorem cvn_5_22 {n : Int} {w : World} (h : 0 ≤ n ∧ n ≤ 4294967295) : (convert 5 22 (.int .u8 n)).run Try.prog w = .ok (.int .u32 n) w := by rw [cv_5_22, wrap_u32 h]
theorem cv_22_5 {n : Int} {w : World} : (convert 22 5 (.int .u32 n)).run Try.prog w = .ok (.int .u8 (IntKind.u8.wrap n)) w := run_conv Try.underlying22 Try.underlying5
theorem cvn_22_5 {n : Int} {w : World} (h : 0 ≤ n ∧ n ≤ 255) : (convert 22 5 (.int .u32 n)).run Try.prog w = .ok (.int .u8 n) w := by rw [cv_22_5, wrap_u8 h]
theorem cv_22_25 {n : Int} {w : World} : (convert 22 25 (.int .u32 n)).run Try.prog w = .ok (.int .u16 (IntKind.u16.wrap n)) w := run_conv Try.underlying22 Try.underlying25
theorem cvn_22_25 {n : Int} {w : World} (h : 0 ≤ n ∧ n ≤ 65535) : (convert 22 25 (.int .u32 n)).run Try.prog w = .ok (.int .u16 n) w := by rw [cv_22_25, wrap_u16 h]
theorem bd_31_0Iu32_1Iu32_2Iu8_3Iu16_4Iu16 (x0 : Int) (x1 : Int) (x2 : Int) (x3 : Int) (x4 : Int) (w : World) : (Instr.build 31 #[(0, .int .u32 x0), (1, .int .u32 x1), (2, .int .u8 x2), (3, .int .u16 x3), (4, .int .u16 x4)]).run Try.prog w = .ok (.agg #[.int .u32 x0, .int .u32 x1, .int .u8 x2, .int .u16 x3, .int .u16 x4]) w := by kernel_rfl

def h5v (x : H5) : List Value := [.int .u32 x.1, .int .u32 x.2.1, .int .u8 x.2.2.1, .int .u16 x.2.2.2.1, .int .u16 x.2.2.2.2]
theorem h5v_5 : ∀ x, (h5v x).length = 5 := fun _ => rfl
def h50 : H5 := (0, 0, 0, 0, 0)
def c2v (x : Int × Int) : List Value := [.int .u64 x.1, .int .u64 x.2]
theorem c2v_2 : ∀ x, (c2v x).length = 2 := fun _ => rfl
def c20 : Int × Int := (0, 0)

set_option maxRecDepth 100000 in
set_option maxHeartbeats 4000000 in
theorem c_add02 {w : World} {A0 : Option Addr} {n0 c0 : Nat} {L0 : List Bool} (HO : w.ownsRow 0 4 1 (.slice A0 n0 c0) n0 (flat bov1 L0)) (x : Int) (W : Nat) (hx : 0 ≤ x ∧ x ≤ 4294967295) (hW : W ≤ 32) (hn : n0 ≤ 1000) : Calls Try.prog 133 #[.slice A0 n0 c0, .int .u32 x, .int .i64 (W : Int)] w fun e w' => ∃ A1 c1, e = .returned (.slice A1 (n0 + W) c1) ∧ App w 4 1 (n0 + W) (Value.slice A0 n0 c0).ownBlock (flat bov1 (L0 ++ bitsOf x W)) (.slice A1 (n0 + W) c1) w' := by
 refine enter 23 Try.ntmps133 Try.func133 rfl (Nat.le_of_ble_eq_true rfl) fun a0 d0 z0 hargs => ?_
 have s0_0 : a0.eval (.tmp 0) = .slice A0 n0 c0 := hargs 0 _ rfl
 have s0_1 : a0.eval (.tmp 1) = .int .u32 x := hargs 1 _ rfl
 have s0_2 : a0.eval (.tmp 2) = .int .i64 (W : Int) := hargs 2 _ rfl
 have x0 := Touch.refl (fun j => some j = (Value.slice A0 n0 c0).ownBlock) w
 refine rgs mixed 23 [.eq (.slice none 0 0)] [[]] d0 z0 (by kernel_rfl) ⟨Ov rfl rfl fun _ _ T _ => ex_assign rfl, trivial⟩ ?_
 intro a1 w1 d1 z1 t1 e1 q1
 refine wp_seq_k fun K2 hK2 => ?_
 have s3_2 := ((q1 2 rfl).trans s0_2)
 refine rgs mixed 23 [.eq (.int .i64 (W : Int)), .eq (.int .i64 ((W : Int) - 1)), .eq (.int .i64 ((W : Int) - 1))] [[(2, none)], [(8, some 0)], [(9, some 1)]] d1 z1 (by kernel_rfl) ⟨Ov rfl rfl fun _ _ T ⟨k2, _⟩ => ex_move (k2.trans s3_2), Ov rfl rfl fun _ _ T ⟨k8, _⟩ => ex_sub64 k8 rfl (by omega), Ov rfl rfl fun _ _ T ⟨k9, _⟩ => ex_assign k9, trivial⟩ ?_
 intro a4 w4 d4 z4 t4 e4 q4
 refine wp_block ?_
 have HO_5 := (own_keep (own_keep HO t1) t4)
 have s7_0 := ((q4 0 rfl).trans ((q1 0 rfl).trans s0_0))
 have s8_1 := ((q4 1 rfl).trans ((q1 1 rfl).trans s0_1))
 have s9_6 : a1.eval (.tmp 6) = .slice none 0 0 := e1.1
 have s10_6 := ((q4 6 rfl).trans s9_6)
 have s11_7 : a4.eval (.tmp 7) = .int .i64 ((W : Int) - 1) := e4.2.2.1
 have x12 := (Touch.trans (Touch.trans x0 (Ext.touch t1)) (Ext.touch t4))
 refine wp_loopg (σ := Nat) (fun nQ aQ wQ => ∃ k : Nat, ∃ A1 : Option Addr, ∃ c1 : Nat, nQ = (W - k) ∧
  aQ.defers = [] ∧
  aQ.tmps.size = 23 ∧
  aQ.eval (.tmp 0) = .slice A1 (n0 + k) c1 ∧
  aQ.eval (.tmp 1) = .int .u32 x ∧
  aQ.eval (.tmp 6) = .slice none 0 0 ∧
  aQ.eval (.tmp 7) = .int .i64 ((W : Int) - 1 - (k : Int)) ∧
  Touch (fun j => some j = (Value.slice A0 n0 c0).ownBlock) w wQ ∧
  wQ.ownsRow 0 4 1 (.slice A1 (n0 + k) c1) (n0 + k) (flat bov1 (L0 ++ ((List.range k).map fun i => bitW x W i))) ∧
  (k ≤ W) ∧
  ((Value.slice A1 (n0 + k) c1).ownBlock = (Value.slice A0 n0 c0).ownBlock ∨ ∃ j, (Value.slice A1 (n0 + k) c1).ownBlock = some j ∧ w.heap.size ≤ j)) (fun nQ => nQ) _ ⟨0, A0, c0, rfl, d4, z4, (s7_0.trans (by first | rfl | (congr 1; omega) | (simp; omega) | simp)), s8_1, s10_6, (s11_7.trans (by first | rfl | (congr 1; omega) | (simp; omega) | simp)), x12, (by simpa using HO_5), Nat.zero_le _, .inl rfl⟩ ?_
 rintro nQ6 a6 w6 ⟨k, A1, c1, hmu6, d6, z6, s6_0, s6_1, s6_6, s6_7, x6, f13, hk, hblk⟩
 refine wp_seq_k fun K14 hK14 => ?_
 refine rgs mixed 23 [.eq (.int .i64 ((W : Int) - 1 - (k : Int))), .eq (.bool (decide (0 ≤ ((W : Int) - 1 - (k : Int)))))] [[(7, none)], [(10, some 0)]] d6 z6 (by kernel_rfl) ⟨Ov rfl rfl fun _ _ T ⟨k7, _⟩ => ex_move (k7.trans s6_7), Ov rfl rfl fun _ _ T ⟨k10, _⟩ => ex_geq k10 rfl, trivial⟩ ?_
 intro a15 w15 d15 z15 t15 e15 q15
 by_cases c16 : 0 ≤ ((W : Int) - 1 - (k : Int))
 ·have y16 := decide_eq_true c16
  have s17_11 : a15.eval (.tmp 11) = .bool (decide (0 ≤ ((W : Int) - 1 - (k : Int)))) := e15.2.1
  refine wp_cond_true (s17_11.trans (by rw [y16])) ?_
  refine wp_skip ?_
  repeat (with_reducible refine block_norm ?_)
  refine hK14 _ _ ?_
  refine wp_seq_k fun K18 hK18 => ?_
  refine wp_block ?_
  refine seq_begin ?_
  refine sp z15 rfl rfl (ex_move ((q15 0 rfl).trans s6_0)) ?_; intro a19 u19 z19
  refine sp z19 rfl rfl (ex_move ((u19.past 1 rfl).trans ((q15 1 rfl).trans s6_1))) ?_; intro a20 u20 z20
  refine sp z20 rfl rfl (ex_move ((u20.past 7 rfl).trans ((u19.past 7 rfl).trans ((q15 7 rfl).trans s6_7)))) ?_; intro a21 u21 z21
  refine sp z21 rfl rfl (ex_shr ((u21.past 15 rfl).trans (u20.here _ rfl)) (u21.here _ rfl) (by omega)) ?_; intro a22 u22 z22
  refine sp z22 rfl rfl (ex_rem (u22.here _ rfl) rfl (by omega)) ?_; intro a23 u23 z23
  refine sp z23 rfl rfl (ex_eql (u23.here _ rfl) rfl) ?_; intro a24 u24 z24
  refine snew (mk := fun bQ => .slice (some ⟨bQ, 0, none⟩) 1 1) z24 rfl rfl (exl_buildSlice (cons_parts (u24.here _ rfl) nil_parts) (bs_52_1_0B (decide (((x.fdiv (2 ^ min ((W : Int) - 1 - (k : Int)).toNat IntKind.u32.bits)).tmod 2) = 1)) _)) ?_; intro b25 w25 a25 t25 g25 hb25 u25 z25
  have f13_27 := (own_keep f13 t15)
  have no26 := no_new f13_27 g25
  have x29 := (Touch.trans x6 (Ext.touch t15))
  have yb25_28 := Nat.le_trans (Touch.size x29) g25
  have p31 := fr4 u22.past u23.past u24.past u25.past
  have f13_32 := (own_keep f13_27 t25)
  refine sapp (m := 1) (news := [.bool (decide (((x.fdiv (2 ^ min ((W : Int) - 1 - (k : Int)).toNat IntKind.u32.bits)).tmod 2) = 1))]) z25 rfl el_52 f13_32 ((p31 14 rfl).trans ((u21.past 14 rfl).trans ((u20.past 14 rfl).trans (u19.here _ rfl)))) (u25.here _ rfl) rfl (news_of hb25) rfl (by omega) (by omega) ?_; intro A30 cp30 w30 a30 t30 u30 z30
  have x34 := (Touch.trans x29 (Ext.touch t25))
  have no35 := App.no t30 (lt_of hb25) (fun (jQ : Nat) hQ (eQ : jQ = b25) => (fun (eQ : some b25 = _) => no26 _ eQ.symm rfl) (by rw [← eQ]; exact hQ.symm))
  refine sp z30 rfl rfl (ex_assign (u30.here _ rfl)) ?_; intro a36 u36 z36
  have d37 := (u36.defs.trans (u30.defs.trans (u25.defs.trans (u24.defs.trans (u23.defs.trans (u22.defs.trans (u21.defs.trans (u20.defs.trans (u19.defs.trans d15)))))))))
  refine seq_end ?_
  repeat (with_reducible refine block_norm ?_)
  refine hK18 _ _ ?_
  have p39 := fr4 q15 u19.past u20.past u21.past
  have s38_7 := ((u36.past 7 rfl).trans ((u30.past 7 rfl).trans ((p31 7 rfl).trans ((p39 7 rfl).trans s6_7))))
  refine rg mixed 23 [.eq (.int .i64 ((W : Int) - 1 - (k : Int))), .eq (.int .i64 (((W : Int) - 1 - (k : Int)) - 1)), .eq (.int .i64 (((W : Int) - 1 - (k : Int)) - 1))] [[(7, none)], [(12, some 0)], [(13, some 1)]] d37 z36 (by kernel_rfl) ⟨Ov rfl rfl fun _ _ T ⟨k7, _⟩ => ex_move (k7.trans s38_7), Ov rfl rfl fun _ _ T ⟨k12, _⟩ => ex_sub64 k12 rfl (by omega), Ov rfl rfl fun _ _ T ⟨k13, _⟩ => ex_assign k13, trivial⟩ ?_
  intro a40 w40 d40 z40 t40 e40 q40
  repeat (with_reducible refine block_norm ?_)
  have s41_0 : a36.eval (.tmp 0) = .slice A30 ((n0 + k) + 1) cp30 := (u36.here _ rfl)
  have s42_0 := ((q40 0 rfl).trans s41_0)
  have s43_1 := ((q40 1 rfl).trans ((u36.past 1 rfl).trans ((u30.past 1 rfl).trans ((p31 1 rfl).trans ((p39 1 rfl).trans s6_1)))))
  have s44_6 := ((q40 6 rfl).trans ((u36.past 6 rfl).trans ((u30.past 6 rfl).trans ((p31 6 rfl).trans ((p39 6 rfl).trans s6_6)))))
  have s45_7 : a40.eval (.tmp 7) = .int .i64 (((W : Int) - 1 - (k : Int)) - 1) := e40.2.2.1
  have x46 := (Touch.trans (Touch.via x34 t30.touch (fun jQ hQ => hblk.elim (fun e => Or.inl (hQ.trans e)) (fun ⟨q, e1, e2⟩ => Or.inr (by rw [e1] at hQ; cases hQ; exact e2)))) (Ext.touch t40))
  have t30.own_47 := (own_keep t30.own t40)
  refine then_norm ?_
  refine ⟨_, ⟨k + 1, A30, cp30, rfl, d40, z40, (s42_0.trans (by first | rfl | (congr 1; omega) | (simp; omega) | simp)), s43_1, s44_6, (s45_7.trans (by first | rfl | (congr 1; omega) | (simp; omega) | simp)), x46, (by rw [bitsP_succ, ← List.append_assoc, ← flat_push, ← bit_rem hx.1 (k := k) (i := (W : Int) - 1 - k) (by omega) hW rfl]; exact t30.own_47), by omega, blk_step hblk t30.blk (Touch.size x34)⟩, ?_⟩; (show _ < _); rw [hmu6]; exact by omega
 ·have y16 := decide_eq_false c16
  have s48_11 : a15.eval (.tmp 11) = .bool (decide (0 ≤ ((W : Int) - 1 - (k : Int)))) := e15.2.1
  refine wp_cond_false (s48_11.trans (by rw [y16])) ?_
  refine wp_exit ?_
  repeat (first | (with_reducible refine then_exit ?_) | (with_reducible refine block_here ?_) | (with_reducible refine block_past rfl ?_))
  refine hK2 _ _ ?_
  have s49_0 := ((q15 0 rfl).trans s6_0)
  refine rgs mixed 23 [.eq (.slice A1 (n0 + k) c1), .eq (.slice A1 (n0 + k) c1)] [[(0, none)], [(22, some 0)]] d15 z15 (by kernel_rfl) ⟨Ov rfl rfl fun _ _ T ⟨k0, _⟩ => ex_move (k0.trans s49_0), Ov rfl rfl fun _ _ T ⟨k22, _⟩ => ex_assign k22, trivial⟩ ?_
  intro a50 w50 d50 z50 t50 e50 q50
  refine wp_ret ?_
  have s51_6 : a50.eval (.tmp 6) = .slice A1 (n0 + k) c1 := e50.2.1
  repeat (first | (with_reducible refine then_ret ?_) | (with_reducible refine block_ret ?_))
  refine retl (rs := [.tmp 6]) Try.results133 ⟨s51_6, trivial⟩ d50 ?_
  have x52 := (Touch.trans (Touch.trans x6 (Ext.touch t15)) (Ext.touch t50))
  have f13_53 := (own_keep (own_keep f13 t15) t50)
  have hkk : k = W := by omega
  subst hkk
  exact ⟨_, _, rfl, ⟨f13_53, hblk, x52⟩⟩

set_option maxRecDepth 100000 in
set_option maxHeartbeats 4000000 in
theorem c_Bits02 {w : World} {x : H5} (H : HdrOk x.1 x.2.1 x.2.2.1 x.2.2.2.1 x.2.2.2.2) : Calls Try.prog 109 #[.agg #[.int .u32 x.1, .int .u32 x.2.1, .int .u8 x.2.2.1, .int .u16 x.2.2.2.1, .int .u16 x.2.2.2.2]] w fun e w' => ∃ A c, e = .returned (.slice A 104 c) ∧ w'.ownsRow 0 4 1 (.slice A 104 c) 104 (flat bov1 (bitsV (hB x) 104)) ∧ Ext w w' ∧ ∀ j, (Value.slice A 104 c).ownBlock = some j → w.heap.size ≤ j := by
 have hd1 := H.d; have hd2 := H.s; have hd3 := H.p; have hd4 := H.sp; have hd5 := H.dp
 refine enter 27 Try.ntmps109 Try.func109 rfl (Nat.le_of_ble_eq_true rfl) fun a0 d0 z0 hargs => ?_
 have s0_0 : a0.eval (.tmp 0) = .agg #[.int .u32 x.1, .int .u32 x.2.1, .int .u8 x.2.2.1, .int .u16 x.2.2.2.1, .int .u16 x.2.2.2.2] := hargs 0 _ rfl
 have x0 := Touch.refl NoF w
 refine wp_seq ?_
 refine seq_begin ?_
 refine sbox z0 rfl s0_0 ?_; intro b1 w1 a1 t1 g1 hb1 u1 z1
 have yb1_2 := Nat.le_trans (Touch.size x0) g1
 refine sp z1 rfl rfl (ex_assign rfl) ?_; intro a3 u3 z3
 have d4 := (u3.defs.trans (u1.defs.trans d0))
 refine seq_end ?_
 refine then_norm ?_
 refine rgs mixed 27 [.eq (.slice none 0 0)] [[]] d4 z3 (by kernel_rfl) ⟨Ov rfl rfl fun _ _ T _ => ex_assign rfl, trivial⟩ ?_
 intro a5 w5 d5 z5 t5 e5 q5
 refine wp_seq ?_
 refine seq_begin ?_
 refine sp z5 rfl rfl (ex_move e5.1) ?_; intro a6 u6 z6
 refine sp z6 rfl rfl (ex_fieldAddr ((u6.past 1 rfl).trans ((q5 1 rfl).trans ((u3.past 1 rfl).trans (u1.here _ rfl)))) (fa_31_0 _ _ _)) ?_; intro a7 u7 z7
 have hb1_9 := (Ext.keep t5 hb1)
 refine sp z7 rfl rfl (ex_load (u7.here _ rfl) (Try.isAgg22 _) (cell_of hb1_9 rfl)) ?_; intro a8 u8 z8
 refine sc z8 rfl rfl (exl_call Try.func133 rfl rfl (cons_ops ((u8.past 4 rfl).trans ((u7.past 4 rfl).trans (u6.here _ rfl))) (cons_ops (u8.here _ rfl) (cons_ops rfl nil_ops)))) (c_add02 (L0 := []) (World.ownsRow_nil _ 0 4 1) x.1 32 (by omega) (by omega) (by omega)) ?_
 rintro e10 w10 ⟨A10, c10, he10, ap10⟩; refine ⟨_, he10, ?_⟩; intro a10 u10 z10
 have x11 := (Touch.trans (Touch.trans x0 (Ext.touch t1)) (Ext.touch t5))
 have no12 := App.no ap10 (lt_of hb1_9) (fun (jQ : Nat) hQ (eQ : jQ = b1) => (fun (eQ : some b1 = (Value.slice none 0 0).ownBlock) => by simp [Value.ownBlock] at eQ) (by rw [← eQ]; exact hQ.symm))
 have no13 := App.base ap10 (Touch.size x11) (fun jQ hQ => by simp [Value.ownBlock] at hQ)
 refine sp z10 rfl rfl (ex_assign (u10.here _ rfl)) ?_; intro a14 u14 z14
 have d15 := (u14.defs.trans (u10.defs.trans (u8.defs.trans (u7.defs.trans (u6.defs.trans d5)))))
 refine seq_end ?_
 refine then_norm ?_
 refine wp_seq ?_
 refine seq_begin ?_
 refine sp z14 rfl rfl (ex_move (u14.here _ rfl)) ?_; intro a16 u16 z16
 have p18 := fr4 u7.past u8.past u10.past u14.past
 refine sp z16 rfl rfl (ex_fieldAddr ((u16.past 1 rfl).trans ((p18 1 rfl).trans ((u6.past 1 rfl).trans ((q5 1 rfl).trans ((u3.past 1 rfl).trans (u1.here _ rfl)))))) (fa_31_1 _ _ _)) ?_; intro a17 u17 z17
 have hb1_20 := (Touch.keep ap10.touch hb1_9 (fun (eQ : some b1 = (Value.slice none 0 0).ownBlock) => by simp [Value.ownBlock] at eQ))
 refine sp z17 rfl rfl (ex_load (u17.here _ rfl) (Try.isAgg22 _) (cell_of hb1_20 rfl)) ?_; intro a19 u19 z19
 refine sc z19 rfl rfl (exl_call Try.func133 rfl rfl (cons_ops ((u19.past 8 rfl).trans ((u17.past 8 rfl).trans (u16.here _ rfl))) (cons_ops (u19.here _ rfl) (cons_ops rfl nil_ops)))) (c_add02 (L0 := ([] ++ bitsOf x.1 32)) ap10.own x.2.1 32 (by omega) (by omega) (by omega)) ?_
 rintro e21 w21 ⟨A21, c21, he21, ap21⟩; refine ⟨_, he21, ?_⟩; intro a21 u21 z21
 have x22 := (Touch.via x11 ap10.touch (fun jQ hQ => by simp [Value.ownBlock] at hQ))
 have no23 := App.no ap21 (lt_of hb1_20) (fun (jQ : Nat) hQ (eQ : jQ = b1) => (fun (eQ : some b1 = _) => no12 _ eQ.symm rfl) (by rw [← eQ]; exact hQ.symm))
 have no24 := App.base ap21 (Touch.size x22) no13
 refine sp z21 rfl rfl (ex_assign (u21.here _ rfl)) ?_; intro a25 u25 z25
 have d26 := (u25.defs.trans (u21.defs.trans (u19.defs.trans (u17.defs.trans (u16.defs.trans d15)))))
 refine seq_end ?_
 refine then_norm ?_
 refine wp_seq ?_
 refine seq_begin ?_
 refine sp z25 rfl rfl (ex_move (u25.here _ rfl)) ?_; intro a27 u27 z27
 have p29 := fr4 u16.past u17.past u19.past u21.past
 refine sp z27 rfl rfl (ex_fieldAddr ((u27.past 1 rfl).trans ((u25.past 1 rfl).trans ((p29 1 rfl).trans ((p18 1 rfl).trans ((u6.past 1 rfl).trans ((q5 1 rfl).trans ((u3.past 1 rfl).trans (u1.here _ rfl)))))))) (fa_31_2 _ _ _)) ?_; intro a28 u28 z28
 have hb1_31 := (Touch.keep ap21.touch hb1_20 (fun (eQ : some b1 = _) => no12 _ eQ.symm rfl))
 refine sp z28 rfl rfl (ex_load (u28.here _ rfl) (Try.isAgg5 _) (cell_of hb1_31 rfl)) ?_; intro a30 u30 z30
 refine sp z30 rfl rfl (ex_convert (u30.here _ rfl) (cvn_5_22 (by omega))) ?_; intro a32 u32 z32
 refine sc z32 rfl rfl (exl_call Try.func133 rfl rfl (cons_ops ((u32.past 12 rfl).trans ((u30.past 12 rfl).trans ((u28.past 12 rfl).trans (u27.here _ rfl)))) (cons_ops (u32.here _ rfl) (cons_ops rfl nil_ops)))) (c_add02 (L0 := (([] ++ bitsOf x.1 32) ++ bitsOf x.2.1 32)) ap21.own x.2.2.1 8 (by omega) (by omega) (by omega)) ?_
 rintro e33 w33 ⟨A33, c33, he33, ap33⟩; refine ⟨_, he33, ?_⟩; intro a33 u33 z33
 have x34 := (Touch.via x22 ap21.touch (fun jQ hQ => Or.inr (no13 jQ hQ.symm)))
 have no35 := App.no ap33 (lt_of hb1_31) (fun (jQ : Nat) hQ (eQ : jQ = b1) => (fun (eQ : some b1 = _) => no23 _ eQ.symm rfl) (by rw [← eQ]; exact hQ.symm))
 have no36 := App.base ap33 (Touch.size x34) no24
 refine sp z33 rfl rfl (ex_assign (u33.here _ rfl)) ?_; intro a37 u37 z37
 have d38 := (u37.defs.trans (u33.defs.trans (u32.defs.trans (u30.defs.trans (u28.defs.trans (u27.defs.trans d26))))))
 refine seq_end ?_
 refine then_norm ?_
 refine wp_seq ?_
 refine seq_begin ?_
 refine sp z37 rfl rfl (ex_move (u37.here _ rfl)) ?_; intro a39 u39 z39
 have p41 := fr4 u25.past u27.past u28.past u30.past
 have p42 := fr4 u32.past u33.past u37.past u39.past
 refine sp z39 rfl rfl (ex_fieldAddr ((p42 1 rfl).trans ((p41 1 rfl).trans ((p29 1 rfl).trans ((p18 1 rfl).trans ((u6.past 1 rfl).trans ((q5 1 rfl).trans ((u3.past 1 rfl).trans (u1.here _ rfl)))))))) (fa_31_3 _ _ _)) ?_; intro a40 u40 z40
 have hb1_44 := (Touch.keep ap33.touch hb1_31 (fun (eQ : some b1 = _) => no23 _ eQ.symm rfl))
 refine sp z40 rfl rfl (ex_load (u40.here _ rfl) (Try.isAgg25 _) (cell_of hb1_44 rfl)) ?_; intro a43 u43 z43
 refine sp z43 rfl rfl (ex_convert (u43.here _ rfl) (cvn_25_22 (by omega))) ?_; intro a45 u45 z45
 refine sc z45 rfl rfl (exl_call Try.func133 rfl rfl (cons_ops ((u45.past 17 rfl).trans ((u43.past 17 rfl).trans ((u40.past 17 rfl).trans (u39.here _ rfl)))) (cons_ops (u45.here _ rfl) (cons_ops rfl nil_ops)))) (c_add02 (L0 := ((([] ++ bitsOf x.1 32) ++ bitsOf x.2.1 32) ++ bitsOf x.2.2.1 8)) ap33.own x.2.2.2.1 16 (by omega) (by omega) (by omega)) ?_
 rintro e46 w46 ⟨A46, c46, he46, ap46⟩; refine ⟨_, he46, ?_⟩; intro a46 u46 z46
 have x47 := (Touch.via x34 ap33.touch (fun jQ hQ => Or.inr (no24 jQ hQ.symm)))
 have no48 := App.no ap46 (lt_of hb1_44) (fun (jQ : Nat) hQ (eQ : jQ = b1) => (fun (eQ : some b1 = _) => no35 _ eQ.symm rfl) (by rw [← eQ]; exact hQ.symm))
 have no49 := App.base ap46 (Touch.size x47) no36
 refine sp z46 rfl rfl (ex_assign (u46.here _ rfl)) ?_; intro a50 u50 z50
 have d51 := (u50.defs.trans (u46.defs.trans (u45.defs.trans (u43.defs.trans (u40.defs.trans (u39.defs.trans d38))))))
 refine seq_end ?_
 refine then_norm ?_
 refine wp_seq ?_
 refine seq_begin ?_
 refine sp z50 rfl rfl (ex_move (u50.here _ rfl)) ?_; intro a52 u52 z52
 have p54 := fr4 u40.past u43.past u45.past u46.past
 refine sp z52 rfl rfl (ex_fieldAddr ((u52.past 1 rfl).trans ((u50.past 1 rfl).trans ((p54 1 rfl).trans ((p42 1 rfl).trans ((p41 1 rfl).trans ((p29 1 rfl).trans ((p18 1 rfl).trans ((u6.past 1 rfl).trans ((q5 1 rfl).trans ((u3.past 1 rfl).trans (u1.here _ rfl))))))))))) (fa_31_4 _ _ _)) ?_; intro a53 u53 z53
 have hb1_56 := (Touch.keep ap46.touch hb1_44 (fun (eQ : some b1 = _) => no35 _ eQ.symm rfl))
 refine sp z53 rfl rfl (ex_load (u53.here _ rfl) (Try.isAgg25 _) (cell_of hb1_56 rfl)) ?_; intro a55 u55 z55
 refine sp z55 rfl rfl (ex_convert (u55.here _ rfl) (cvn_25_22 (by omega))) ?_; intro a57 u57 z57
 refine sc z57 rfl rfl (exl_call Try.func133 rfl rfl (cons_ops ((u57.past 22 rfl).trans ((u55.past 22 rfl).trans ((u53.past 22 rfl).trans (u52.here _ rfl)))) (cons_ops (u57.here _ rfl) (cons_ops rfl nil_ops)))) (c_add02 (L0 := (((([] ++ bitsOf x.1 32) ++ bitsOf x.2.1 32) ++ bitsOf x.2.2.1 8) ++ bitsOf x.2.2.2.1 16)) ap46.own x.2.2.2.2 16 (by omega) (by omega) (by omega)) ?_
 rintro e58 w58 ⟨A58, c58, he58, ap58⟩; refine ⟨_, he58, ?_⟩; intro a58 u58 z58
 have x59 := (Touch.via x47 ap46.touch (fun jQ hQ => Or.inr (no36 jQ hQ.symm)))
 have no60 := App.no ap58 (lt_of hb1_56) (fun (jQ : Nat) hQ (eQ : jQ = b1) => (fun (eQ : some b1 = _) => no48 _ eQ.symm rfl) (by rw [← eQ]; exact hQ.symm))
 have no61 := App.base ap58 (Touch.size x59) no49
 refine sp z58 rfl rfl (ex_assign (u58.here _ rfl)) ?_; intro a62 u62 z62
 have d63 := (u62.defs.trans (u58.defs.trans (u57.defs.trans (u55.defs.trans (u53.defs.trans (u52.defs.trans d51))))))
 refine seq_end ?_
 refine then_norm ?_
 refine wp_ret ?_
 have s64_2 : a62.eval (.tmp 2) = .slice A58 (((((0 + 32) + 32) + 8) + 16) + 16) c58 := (u62.here _ rfl)
 repeat (first | (with_reducible refine then_ret ?_) | (with_reducible refine block_ret ?_))
 refine retl (rs := [.tmp 2]) Try.results109 ⟨s64_2, trivial⟩ d63 ?_
 have x65 := (Touch.via x59 ap58.touch (fun jQ hQ => Or.inr (no49 jQ hQ.symm)))
 have hh := ap58.own
 rw [bits_hdr H] at hh
 exact ⟨_, _, rfl, hh, (x65).ext, no61⟩

set_option maxRecDepth 100000 in
set_option maxHeartbeats 4000000 in
theorem c_number02 {w : World} {Q : Option Addr} {L : List Bool} {n cq : Nat} (HR : Reads w (.slice Q n cq) 1 (flat bov1 L) n) (hL : n = L.length) (q : Int) (W : Nat) (hq : 0 ≤ q) (hW : W ≤ 32) (hqW : q + W ≤ n) (hn : n ≤ 1000) : Calls Try.prog 108 #[.slice Q n cq, .int .i64 q, .int .i64 (W : Int)] w fun e w' => e = .returned (.int .u32 (numB q (fun zQ => at_ L false zQ) W)) ∧ Ext w w' := by
 refine enter 25 Try.ntmps108 Try.func108 rfl (Nat.le_of_ble_eq_true rfl) fun a0 d0 z0 hargs => ?_
 have s0_0 : a0.eval (.tmp 0) = .slice Q n cq := hargs 0 _ rfl
 have s0_1 : a0.eval (.tmp 1) = .int .i64 q := hargs 1 _ rfl
 have s0_2 : a0.eval (.tmp 2) = .int .i64 (W : Int) := hargs 2 _ rfl
 have x0 := Touch.refl NoF w
 refine rgs mixed 25 [.eq (.int .u32 0)] [[]] d0 z0 (by kernel_rfl) ⟨Ov rfl rfl fun _ _ T _ => ex_assign rfl, trivial⟩ ?_
 intro a1 w1 d1 z1 t1 e1 q1
 refine rgs mixed 25 [.eq (.int .u32 0)] [[]] d1 z1 (by kernel_rfl) ⟨Ov rfl rfl fun _ _ T _ => ex_assign rfl, trivial⟩ ?_
 intro a2 w2 d2 z2 t2 e2 q2
 refine wp_seq_k fun K3 hK3 => ?_
 refine rgs mixed 25 [.eq (.int .i64 0)] [[]] d2 z2 (by kernel_rfl) ⟨Ov rfl rfl fun _ _ T _ => ex_assign rfl, trivial⟩ ?_
 intro a4 w4 d4 z4 t4 e4 q4
 refine wp_block ?_
 have s6_0 := ((q4 0 rfl).trans ((q2 0 rfl).trans ((q1 0 rfl).trans s0_0)))
 have s7_1 := ((q4 1 rfl).trans ((q2 1 rfl).trans ((q1 1 rfl).trans s0_1)))
 have s8_2 := ((q4 2 rfl).trans ((q2 2 rfl).trans ((q1 2 rfl).trans s0_2)))
 have s9_6 : a1.eval (.tmp 6) = .int .u32 0 := e1.1
 have s10_6 := ((q4 6 rfl).trans ((q2 6 rfl).trans s9_6))
 have s11_7 : a2.eval (.tmp 7) = .int .u32 0 := e2.1
 have s12_7 := ((q4 7 rfl).trans s11_7)
 have s13_8 : a4.eval (.tmp 8) = .int .i64 0 := e4.1
 have x14 := (Touch.trans (Touch.trans (Touch.trans x0 (Ext.touch t1)) (Ext.touch t2)) (Ext.touch t4))
 refine wp_loopg (σ := Nat) (fun nQ aQ wQ => ∃ k : Nat, nQ = (W - k) ∧
  aQ.defers = [] ∧
  aQ.tmps.size = 25 ∧
  aQ.eval (.tmp 0) = .slice Q n cq ∧
  aQ.eval (.tmp 1) = .int .i64 q ∧
  aQ.eval (.tmp 2) = .int .i64 (W : Int) ∧
  aQ.eval (.tmp 6) = .int .u32 0 ∧
  aQ.eval (.tmp 7) = .int .u32 (numB q (fun zQ => at_ L false zQ) k) ∧
  aQ.eval (.tmp 8) = .int .i64 (k : Int) ∧
  Touch (NoF) w wQ ∧
  (k ≤ W)) (fun nQ => nQ) _ ⟨0, rfl, d4, z4, s6_0, s7_1, s8_2, s10_6, (s12_7.trans (by first | rfl | (rw [num_yes (by omega) hbit]) | (rw [num_no (by omega) hbit]) | (congr 1; omega))), (s13_8.trans (by first | rfl | (rw [num_yes (by omega) hbit]) | (rw [num_no (by omega) hbit]) | (congr 1; omega))), x14, Nat.zero_le _⟩ ?_
 rintro nQ5 a5 w5 ⟨k, hmu5, d5, z5, s5_0, s5_1, s5_2, s5_6, s5_7, s5_8, x5, hk⟩
 refine wp_seq_k fun K15 hK15 => ?_
 refine rgs mixed 25 [.eq (.int .i64 (k : Int)), .eq (.int .i64 (W : Int)), .eq (.bool (decide ((k : Int) < (W : Int))))] [[(8, none)], [(2, none)], [(9, some 0), (10, some 1)]] d5 z5 (by kernel_rfl) ⟨Ov rfl rfl fun _ _ T ⟨k8, _⟩ => ex_move (k8.trans s5_8), Ov rfl rfl fun _ _ T ⟨k2, _⟩ => ex_move (k2.trans s5_2), Ov rfl rfl fun _ _ T ⟨k9, k10, _⟩ => ex_lss k9 k10, trivial⟩ ?_
 intro a16 w16 d16 z16 t16 e16 q16
 by_cases c17 : (k : Int) < (W : Int)
 ·have y17 := decide_eq_true c17
  have s18_11 : a16.eval (.tmp 11) = .bool (decide ((k : Int) < (W : Int))) := e16.2.2.1
  refine wp_cond_true (s18_11.trans (by rw [y17])) ?_
  refine wp_skip ?_
  repeat (with_reducible refine block_norm ?_)
  refine hK15 _ _ ?_
  refine wp_seq_k fun K19 hK19 => ?_
  refine wp_block ?_
  have s20_7 := ((q16 7 rfl).trans s5_7)
  refine rgs mixed 25 [.eq (.int .u32 (numB q (fun zQ => at_ L false zQ) k)), .eq (.int .u32 (IntKind.u32.wrap ((numB q (fun zQ => at_ L false zQ) k) * 2))), .eq (.int .u32 (IntKind.u32.wrap ((numB q (fun zQ => at_ L false zQ) k) * 2)))] [[(7, none)], [(14, some 0)], [(15, some 1)]] d16 z16 (by kernel_rfl) ⟨Ov rfl rfl fun _ _ T ⟨k7, _⟩ => ex_move (k7.trans s20_7), Ov rfl rfl fun _ _ T ⟨k14, _⟩ => ex_mul k14 rfl, Ov rfl rfl fun _ _ T ⟨k15, _⟩ => ex_assign k15, trivial⟩ ?_
  intro a21 w21 d21 z21 t21 e21 q21
  have s22_0 := ((q21 0 rfl).trans ((q16 0 rfl).trans s5_0))
  have s23_1 := ((q21 1 rfl).trans ((q16 1 rfl).trans s5_1))
  have s24_8 := ((q21 8 rfl).trans ((q16 8 rfl).trans s5_8))
  have x26 := (Touch.trans (Touch.trans x5 (Ext.touch t16)) (Ext.touch t21))
  have rd25 := Reads.touch HR x26 (by decide) (reads_noF _ _)
  refine rgs mixed 25 [.eq (.slice Q n cq), .eq (.int .i64 q), .eq (.int .i64 (k : Int)), .eq (.int .i64 (q + (k : Int))), .eq (.pointer (some ⟨(rowB Q), rowO Q + Int.toNat (q + (k : Int)) * 1, none⟩)), .eq (.bool (at_ L false (q + (k : Int))))] [[(0, none)], [(1, none)], [(8, none)], [(17, some 1), (18, some 2)], [(16, some 0), (19, some 3)], [(20, some 4)]] d21 z21 (by kernel_rfl) ⟨Ov rfl rfl fun _ _ T ⟨k0, _⟩ => ex_move (k0.trans s22_0),
   Ov rfl rfl fun _ _ T ⟨k1, _⟩ => ex_move (k1.trans s23_1),
   Ov rfl rfl fun _ _ T ⟨k8, _⟩ => ex_move (k8.trans s24_8),
   Ov rfl rfl fun _ _ T ⟨k17, k18, _⟩ => ex_add64 k17 k18 (by omega),
   Ov rfl rfl fun _ _ T ⟨k16, k19, _⟩ => ex_ixr Try.underlying52 (Try.sizeOf4 _) k16 (Reads.eqA rd25 (by omega)) k19 (by omega) (by omega),
   Ov rfl rfl fun _ _ T ⟨k20, _⟩ => ex_load k20 (Try.isAgg4 _) (rd_at (Reads.keep rd25 T.ext) (Reads.eqA rd25 (by omega)) bov1_1 (at_some' (d := false) (hL) (by omega) (by omega)) 0 rfl),
   trivial⟩ ?_
  intro a27 w27 d27 z27 t27 e27 q27
  have s28_2 := ((q27 2 rfl).trans ((q21 2 rfl).trans ((q16 2 rfl).trans s5_2)))
  have s29_6 := ((q27 6 rfl).trans ((q21 6 rfl).trans ((q16 6 rfl).trans s5_6)))
  rcases Bool.eq_false_or_eq_true ((at_ L false (q + (k : Int)))) with y30 | y30
  ·have c30 := y30
   have s31_21 : a27.eval (.tmp 21) = .bool (at_ L false (q + (k : Int))) := e27.2.2.2.2.2.1
   refine wp_cond_true (s31_21.trans (by rw [y30])) ?_
   have s32_7 : a21.eval (.tmp 7) = .int .u32 (IntKind.u32.wrap ((numB q (fun zQ => at_ L false zQ) k) * 2)) := e21.2.2.1
   have s33_7 := ((q27 7 rfl).trans s32_7)
   refine rg mixed 25 [.eq (.int .u32 (IntKind.u32.wrap ((numB q (fun zQ => at_ L false zQ) k) * 2))), .eq (.int .u32 (IntKind.u32.wrap ((IntKind.u32.wrap ((numB q (fun zQ => at_ L false zQ) k) * 2)) + 1))), .eq (.int .u32 (IntKind.u32.wrap ((IntKind.u32.wrap ((numB q (fun zQ => at_ L false zQ) k) * 2)) + 1)))] [[(7, none)], [(22, some 0)], [(23, some 1)]] d27 z27 (by kernel_rfl) ⟨Ov rfl rfl fun _ _ T ⟨k7, _⟩ => ex_move (k7.trans s33_7), Ov rfl rfl fun _ _ T ⟨k22, _⟩ => ex_add k22 rfl, Ov rfl rfl fun _ _ T ⟨k23, _⟩ => ex_assign k23, trivial⟩ ?_
   intro a34 w34 d34 z34 t34 e34 q34
   repeat (with_reducible refine block_norm ?_)
   refine hK19 _ _ ?_
   have s35_8 := ((q34 8 rfl).trans ((q27 8 rfl).trans s24_8))
   refine rg mixed 25 [.eq (.int .i64 (k : Int)), .eq (.int .i64 ((k : Int) + 1)), .eq (.int .i64 ((k : Int) + 1))] [[(8, none)], [(12, some 0)], [(13, some 1)]] d34 z34 (by kernel_rfl) ⟨Ov rfl rfl fun _ _ T ⟨k8, _⟩ => ex_move (k8.trans s35_8), Ov rfl rfl fun _ _ T ⟨k12, _⟩ => ex_add64 k12 rfl (by omega), Ov rfl rfl fun _ _ T ⟨k13, _⟩ => ex_assign k13, trivial⟩ ?_
   intro a36 w36 d36 z36 t36 e36 q36
   repeat (with_reducible refine block_norm ?_)
   have hbit : at_ L false (q + (k : Int)) = true := y30
   have s37_0 := ((q36 0 rfl).trans ((q34 0 rfl).trans ((q27 0 rfl).trans s22_0)))
   have s38_1 := ((q36 1 rfl).trans ((q34 1 rfl).trans ((q27 1 rfl).trans s23_1)))
   have s39_2 := ((q36 2 rfl).trans ((q34 2 rfl).trans s28_2))
   have s40_6 := ((q36 6 rfl).trans ((q34 6 rfl).trans s29_6))
   have s41_7 : a34.eval (.tmp 7) = .int .u32 (IntKind.u32.wrap ((IntKind.u32.wrap ((numB q (fun zQ => at_ L false zQ) k) * 2)) + 1)) := e34.2.2.1
   have s42_7 := ((q36 7 rfl).trans s41_7)
   have s43_8 : a36.eval (.tmp 8) = .int .i64 ((k : Int) + 1) := e36.2.2.1
   have x44 := (Touch.trans (Touch.trans (Touch.trans x26 (Ext.touch t27)) (Ext.touch t34)) (Ext.touch t36))
   refine then_norm ?_
   refine ⟨_, ⟨k + 1, rfl, d36, z36, s37_0, s38_1, s39_2, s40_6, (s42_7.trans (by first | rfl | (rw [num_yes (by omega) hbit]) | (rw [num_no (by omega) hbit]) | (congr 1; omega))), (s43_8.trans (by first | rfl | (rw [num_yes (by omega) hbit]) | (rw [num_no (by omega) hbit]) | (congr 1; omega))), x44, by omega⟩, ?_⟩; (show _ < _); rw [hmu5]; exact by omega
  ·have c30 := y30
   have s45_21 : a27.eval (.tmp 21) = .bool (at_ L false (q + (k : Int))) := e27.2.2.2.2.2.1
   refine wp_cond_false (s45_21.trans (by rw [y30])) ?_
   refine wp_skip ?_
   repeat (with_reducible refine block_norm ?_)
   refine hK19 _ _ ?_
   have s46_8 := ((q27 8 rfl).trans s24_8)
   refine rg mixed 25 [.eq (.int .i64 (k : Int)), .eq (.int .i64 ((k : Int) + 1)), .eq (.int .i64 ((k : Int) + 1))] [[(8, none)], [(12, some 0)], [(13, some 1)]] d27 z27 (by kernel_rfl) ⟨Ov rfl rfl fun _ _ T ⟨k8, _⟩ => ex_move (k8.trans s46_8), Ov rfl rfl fun _ _ T ⟨k12, _⟩ => ex_add64 k12 rfl (by omega), Ov rfl rfl fun _ _ T ⟨k13, _⟩ => ex_assign k13, trivial⟩ ?_
   intro a47 w47 d47 z47 t47 e47 q47
   repeat (with_reducible refine block_norm ?_)
   have hbit : at_ L false (q + (k : Int)) = false := y30
   have s48_0 := ((q47 0 rfl).trans ((q27 0 rfl).trans s22_0))
   have s49_1 := ((q47 1 rfl).trans ((q27 1 rfl).trans s23_1))
   have s50_2 := ((q47 2 rfl).trans s28_2)
   have s51_6 := ((q47 6 rfl).trans s29_6)
   have s52_7 : a21.eval (.tmp 7) = .int .u32 (IntKind.u32.wrap ((numB q (fun zQ => at_ L false zQ) k) * 2)) := e21.2.2.1
   have s53_7 := ((q47 7 rfl).trans ((q27 7 rfl).trans s52_7))
   have s54_8 : a47.eval (.tmp 8) = .int .i64 ((k : Int) + 1) := e47.2.2.1
   have x55 := (Touch.trans (Touch.trans x26 (Ext.touch t27)) (Ext.touch t47))
   refine then_norm ?_
   refine ⟨_, ⟨k + 1, rfl, d47, z47, s48_0, s49_1, s50_2, s51_6, (s53_7.trans (by first | rfl | (rw [num_yes (by omega) hbit]) | (rw [num_no (by omega) hbit]) | (congr 1; omega))), (s54_8.trans (by first | rfl | (rw [num_yes (by omega) hbit]) | (rw [num_no (by omega) hbit]) | (congr 1; omega))), x55, by omega⟩, ?_⟩; (show _ < _); rw [hmu5]; exact by omega
 ·have y17 := decide_eq_false c17
  have s56_11 : a16.eval (.tmp 11) = .bool (decide ((k : Int) < (W : Int))) := e16.2.2.1
  refine wp_cond_false (s56_11.trans (by rw [y17])) ?_
  refine wp_exit ?_
  repeat (first | (with_reducible refine then_exit ?_) | (with_reducible refine block_here ?_) | (with_reducible refine block_past rfl ?_))
  refine hK3 _ _ ?_
  have s57_7 := ((q16 7 rfl).trans s5_7)
  refine rgs mixed 25 [.eq (.int .u32 (numB q (fun zQ => at_ L false zQ) k)), .eq (.int .u32 (numB q (fun zQ => at_ L false zQ) k))] [[(7, none)], [(24, some 0)]] d16 z16 (by kernel_rfl) ⟨Ov rfl rfl fun _ _ T ⟨k7, _⟩ => ex_move (k7.trans s57_7), Ov rfl rfl fun _ _ T ⟨k24, _⟩ => ex_assign k24, trivial⟩ ?_
  intro a58 w58 d58 z58 t58 e58 q58
  refine wp_ret ?_
  have s59_6 : a58.eval (.tmp 6) = .int .u32 (numB q (fun zQ => at_ L false zQ) k) := e58.2.1
  repeat (first | (with_reducible refine then_ret ?_) | (with_reducible refine block_ret ?_))
  refine retl (rs := [.tmp 6]) Try.results108 ⟨s59_6, trivial⟩ d58 ?_
  have hkk : k = W := by omega
  subst hkk
  have x60 := (Touch.trans (Touch.trans x5 (Ext.touch t16)) (Ext.touch t58))
  exact ⟨rfl, (x60).ext⟩

set_option maxRecDepth 100000 in
set_option maxHeartbeats 4000000 in
theorem c_Back02 {w : World} {Q : Option Addr} {L : List Bool} {n cq : Nat} (HR : Reads w (.slice Q n cq) 1 (flat bov1 L) n) (hL : n = L.length) (hn : n = 104) : Calls Try.prog 72 #[.slice Q n cq] w fun e w' => e = .returned (.agg #[.int .u32 ((hmk fun zQ => at_ L false zQ).1), .int .u32 ((hmk fun zQ => at_ L false zQ).2.1), .int .u8 ((hmk fun zQ => at_ L false zQ).2.2.1), .int .u16 ((hmk fun zQ => at_ L false zQ).2.2.2.1), .int .u16 ((hmk fun zQ => at_ L false zQ).2.2.2.2)]) ∧ Ext w w' := by
 refine enter 17 Try.ntmps72 Try.func72 rfl (Nat.le_of_ble_eq_true rfl) fun a0 d0 z0 hargs => ?_
 have s0_0 : a0.eval (.tmp 0) = .slice Q n cq := hargs 0 _ rfl
 have x0 := Touch.refl NoF w
 refine wp_seq ?_
 refine seq_begin ?_
 refine salloc z0 rfl (zv_31 _) ?_; intro b1 w1 a1 t1 g1 hb1 u1 z1
 have yb1_2 := Nat.le_trans (Touch.size x0) g1
 have d3 := (u1.defs.trans d0)
 refine seq_end ?_
 refine then_norm ?_
 refine wp_seq ?_
 refine seq_begin ?_
 refine sp z1 rfl rfl (ex_move ((u1.past 0 rfl).trans s0_0)) ?_; intro a4 u4 z4
 have x7 := (Touch.trans x0 (Ext.touch t1))
 have rd6 := Reads.touch HR x7 (by decide) (reads_noF _ _)
 refine scx z4 rfl rfl (exl_call Try.func108 rfl rfl (cons_ops (u4.here _ rfl) (cons_ops rfl (cons_ops rfl nil_ops)))) (c_number02 rd6 (hL) 0 32 (by omega) (by omega) (by omega) (by omega)) ?_; intro w5 a5 t5 u5 z5
 refine sp z5 rfl rfl (ex_move ((u5.past 0 rfl).trans ((u4.past 0 rfl).trans ((u1.past 0 rfl).trans s0_0)))) ?_; intro a8 u8 z8
 have x11 := (Touch.trans x7 (Ext.touch t5))
 have rd10 := Reads.touch HR x11 (by decide) (reads_noF _ _)
 refine scx z8 rfl rfl (exl_call Try.func108 rfl rfl (cons_ops (u8.here _ rfl) (cons_ops rfl (cons_ops rfl nil_ops)))) (c_number02 rd10 (hL) 32 32 (by omega) (by omega) (by omega) (by omega)) ?_; intro w9 a9 t9 u9 z9
 have p13 := fr4 u1.past u4.past u5.past u8.past
 refine sp z9 rfl rfl (ex_move ((u9.past 0 rfl).trans ((p13 0 rfl).trans s0_0))) ?_; intro a12 u12 z12
 have x16 := (Touch.trans x11 (Ext.touch t9))
 have rd15 := Reads.touch HR x16 (by decide) (reads_noF _ _)
 refine scx z12 rfl rfl (exl_call Try.func108 rfl rfl (cons_ops (u12.here _ rfl) (cons_ops rfl (cons_ops rfl nil_ops)))) (c_number02 rd15 (hL) 64 8 (by omega) (by omega) (by omega) (by omega)) ?_; intro w14 a14 t14 u14 z14
 refine sp z14 rfl rfl (ex_convert (u14.here _ rfl) (cvn_22_5 (by have := numB_range 64 (fun zQ => at_ L false zQ) 8; omega))) ?_; intro a17 u17 z17
 have p19 := fr4 u9.past u12.past u14.past u17.past
 refine sp z17 rfl rfl (ex_move ((p19 0 rfl).trans ((p13 0 rfl).trans s0_0))) ?_; intro a18 u18 z18
 have x22 := (Touch.trans x16 (Ext.touch t14))
 have rd21 := Reads.touch HR x22 (by decide) (reads_noF _ _)
 refine scx z18 rfl rfl (exl_call Try.func108 rfl rfl (cons_ops (u18.here _ rfl) (cons_ops rfl (cons_ops rfl nil_ops)))) (c_number02 rd21 (hL) 72 16 (by omega) (by omega) (by omega) (by omega)) ?_; intro w20 a20 t20 u20 z20
 refine sp z20 rfl rfl (ex_convert (u20.here _ rfl) (cvn_22_25 (by have := numB_range 72 (fun zQ => at_ L false zQ) 16; have := numB_range 88 (fun zQ => at_ L false zQ) 16; omega))) ?_; intro a23 u23 z23
 refine sp z23 rfl rfl (ex_move ((u23.past 0 rfl).trans ((u20.past 0 rfl).trans ((u18.past 0 rfl).trans ((p19 0 rfl).trans ((p13 0 rfl).trans s0_0)))))) ?_; intro a24 u24 z24
 have x27 := (Touch.trans x22 (Ext.touch t20))
 have rd26 := Reads.touch HR x27 (by decide) (reads_noF _ _)
 refine scx z24 rfl rfl (exl_call Try.func108 rfl rfl (cons_ops (u24.here _ rfl) (cons_ops rfl (cons_ops rfl nil_ops)))) (c_number02 rd26 (hL) 88 16 (by omega) (by omega) (by omega) (by omega)) ?_; intro w25 a25 t25 u25 z25
 refine sp z25 rfl rfl (ex_convert (u25.here _ rfl) (cvn_22_25 (by have := numB_range 72 (fun zQ => at_ L false zQ) 16; have := numB_range 88 (fun zQ => at_ L false zQ) 16; omega))) ?_; intro a28 u28 z28
 have p30 := fr4 u18.past u20.past u23.past u24.past
 refine sp z28 rfl rfl (exl_build (cons_parts ((u28.past 4 rfl).trans ((u25.past 4 rfl).trans ((p30 4 rfl).trans ((p19 4 rfl).trans ((u8.past 4 rfl).trans (u5.here _ rfl)))))) (cons_parts ((u28.past 6 rfl).trans ((u25.past 6 rfl).trans ((p30 6 rfl).trans ((u17.past 6 rfl).trans ((u14.past 6 rfl).trans ((u12.past 6 rfl).trans (u9.here _ rfl))))))) (cons_parts ((u28.past 9 rfl).trans ((u25.past 9 rfl).trans ((p30 9 rfl).trans (u17.here _ rfl)))) (cons_parts ((u28.past 12 rfl).trans ((u25.past 12 rfl).trans ((u24.past 12 rfl).trans (u23.here _ rfl)))) (cons_parts (u28.here _ rfl) nil_parts))))) (bd_31_0Iu32_1Iu32_2Iu8_3Iu16_4Iu16 (numB 0 (fun zQ => at_ L false zQ) 32) (numB 32 (fun zQ => at_ L false zQ) 32) (numB 64 (fun zQ => at_ L false zQ) 8) (numB 72 (fun zQ => at_ L false zQ) 16) (numB 88 (fun zQ => at_ L false zQ) 16) _)) ?_; intro a29 u29 z29
 have hb1_32 := (Ext.keep t25 (Ext.keep t20 (Ext.keep t14 (Ext.keep t9 (Ext.keep t5 hb1)))))
 refine sstore (cs := [.int .u32 0, .int .u32 0, .int .u8 0, .int .u16 0, .int .u16 0]) (vs := [.int .u32 (numB 0 (fun zQ => at_ L false zQ) 32), .int .u32 (numB 32 (fun zQ => at_ L false zQ) 32), .int .u8 (numB 64 (fun zQ => at_ L false zQ) 8), .int .u16 (numB 72 (fun zQ => at_ L false zQ) 16), .int .u16 (numB 88 (fun zQ => at_ L false zQ) 16)]) (cs' := [.int .u32 (numB 0 (fun zQ => at_ L false zQ) 32), .int .u32 (numB 32 (fun zQ => at_ L false zQ) 32), .int .u8 (numB 64 (fun zQ => at_ L false zQ) 8), .int .u16 (numB 72 (fun zQ => at_ L false zQ) 16), .int .u16 (numB 88 (fun zQ => at_ L false zQ) 16)]) z29 rfl ((u29.past 2 rfl).trans ((u28.past 2 rfl).trans ((u25.past 2 rfl).trans ((p30 2 rfl).trans ((p19 2 rfl).trans ((u8.past 2 rfl).trans ((u5.past 2 rfl).trans ((u4.past 2 rfl).trans (u1.here _ rfl))))))))) (u29.here _ rfl) hb1_32 (Try.sizeOf31 _) rfl rfl (by decide) (Nat.le_of_ble_eq_true rfl) rfl rfl ?_; intro w31 a31 t31 u31 z31
 have d33 := (u31.defs.trans (u29.defs.trans (u28.defs.trans (u25.defs.trans (u24.defs.trans (u23.defs.trans (u20.defs.trans (u18.defs.trans (u17.defs.trans (u14.defs.trans (u12.defs.trans (u9.defs.trans (u8.defs.trans (u5.defs.trans (u4.defs.trans d3)))))))))))))))
 refine seq_end ?_
 refine then_norm ?_
 refine wp_ret ?_
 have s34_2 : a1.eval (.tmp 2) = .pointer (some ⟨b1, 0, none⟩) := (u1.here _ rfl)
 have p36 := fr4 u25.past u28.past u29.past u31.past
 have s35_2 := ((p36 2 rfl).trans ((p30 2 rfl).trans ((p19 2 rfl).trans ((u8.past 2 rfl).trans ((u5.past 2 rfl).trans ((u4.past 2 rfl).trans s34_2))))))
 repeat (first | (with_reducible refine then_ret ?_) | (with_reducible refine block_ret ?_))
 refine retl (rs := [.cell 2 31]) Try.results72 ⟨⟨_, s35_2, run_loadVarA (cs := [.int .u32 (numB 0 (fun zQ => at_ L false zQ) 32), .int .u32 (numB 32 (fun zQ => at_ L false zQ) 32), .int .u8 (numB 64 (fun zQ => at_ L false zQ) 8), .int .u16 (numB 72 (fun zQ => at_ L false zQ) 16), .int .u16 (numB 88 (fun zQ => at_ L false zQ) 16)]) (Try.isAgg31 _) (Try.sizeOf31 _) (cells_of (off := 0) t31.here rfl)⟩, trivial⟩ d33 ?_
 have x37 := (Touch.turn (Touch.trans x27 (Ext.touch t25)) t31 (Or.inr yb1_2))
 exact ⟨rfl, (x37).ext⟩

set_option maxRecDepth 100000 in
set_option maxHeartbeats 4000000 in
theorem c_with06 {w : World} {x : H5} (H : HdrOk x.1 x.2.1 x.2.2.1 x.2.2.2.1 x.2.2.2.2) (i : Int) (on : Bool) (hi : 0 ≤ i ∧ i < 104) : Calls Try.prog 110 #[.agg #[.int .u32 x.1, .int .u32 x.2.1, .int .u8 x.2.2.1, .int .u16 x.2.2.2.1, .int .u16 x.2.2.2.2], .int .i64 i, .bool on] w fun e w' => e = .returned (.agg #[.int .u32 ((hmk (upd (hB x) i on)).1), .int .u32 ((hmk (upd (hB x) i on)).2.1), .int .u8 ((hmk (upd (hB x) i on)).2.2.1), .int .u16 ((hmk (upd (hB x) i on)).2.2.2.1), .int .u16 ((hmk (upd (hB x) i on)).2.2.2.2)]) ∧ Ext w w' := by
 refine enter 16 Try.ntmps110 Try.func110 rfl (Nat.le_of_ble_eq_true rfl) fun a0 d0 z0 hargs => ?_
 have s0_0 : a0.eval (.tmp 0) = .agg #[.int .u32 x.1, .int .u32 x.2.1, .int .u8 x.2.2.1, .int .u16 x.2.2.2.1, .int .u16 x.2.2.2.2] := hargs 0 _ rfl
 have s0_1 : a0.eval (.tmp 1) = .int .i64 i := hargs 1 _ rfl
 have s0_2 : a0.eval (.tmp 2) = .bool on := hargs 2 _ rfl
 have x0 := Touch.refl NoF w
 refine wp_seq ?_
 refine seq_begin ?_
 refine sbox z0 rfl s0_0 ?_; intro b1 w1 a1 t1 g1 hb1 u1 z1
 have yb1_2 := Nat.le_trans (Touch.size x0) g1
 refine salloc z1 rfl (zv_31 _) ?_; intro b3 w3 a3 t3 g3 hb3 u3 z3
 have n4_b1_b3 := ne_lt (lt_of hb1) g3
 have x6 := (Touch.trans x0 (Ext.touch t1))
 have yb3_5 := Nat.le_trans (Touch.size x6) g3
 have d7 := (u3.defs.trans (u1.defs.trans d0))
 refine seq_end ?_
 refine then_norm ?_
 refine wp_seq ?_
 refine seq_begin ?_
 have hb1_9 := (Ext.keep t3 hb1)
 refine sp z3 rfl rfl (ex_loadAgg (cs := [.int .u32 x.1, .int .u32 x.2.1, .int .u8 x.2.2.1, .int .u16 x.2.2.2.1, .int .u16 x.2.2.2.2]) ((u3.past 3 rfl).trans (u1.here _ rfl)) (Try.isAgg31 _) (Try.sizeOf31 _) (cells_of (off := 0) hb1_9 rfl)) ?_; intro a8 u8 z8
 refine sc z8 rfl rfl (exl_call Try.func109 rfl rfl (cons_ops (u8.here _ rfl) nil_ops)) (c_Bits02 (x := x) H) ?_
 rintro e10 w10 ⟨A10, c10, he10, ho10, t10, hb10⟩; refine ⟨_, he10, ?_⟩; intro a10 u10 z10
 have no11 := row_no (hb10) (lt_of hb1_9)
 have no12 := row_no (hb10) (lt_of hb3)
 have x14 := (Touch.trans x6 (Ext.touch t3))
 have no13 := row_base (hb10) (Touch.size x14)
 refine sp z10 rfl rfl (ex_assign (u10.here _ rfl)) ?_; intro a15 u15 z15
 have d16 := (u15.defs.trans (u10.defs.trans (u8.defs.trans d7)))
 refine seq_end ?_
 refine then_norm ?_
 refine wp_seq ?_
 refine seq_begin ?_
 refine sp z15 rfl rfl (ex_move (u15.here _ rfl)) ?_; intro a17 u17 z17
 have p19 := fr4 u1.past u3.past u8.past u10.past
 refine sp z17 rfl rfl (ex_move ((u17.past 1 rfl).trans ((u15.past 1 rfl).trans ((p19 1 rfl).trans s0_1)))) ?_; intro a18 u18 z18
 refine sp z18 rfl rfl (ex_move ((u18.past 2 rfl).trans ((u17.past 2 rfl).trans ((u15.past 2 rfl).trans ((p19 2 rfl).trans s0_2))))) ?_; intro a20 u20 z20
 refine sp z20 rfl rfl (ex_ixa Try.underlying52 (Try.sizeOf4 _) ((u20.past 10 rfl).trans ((u18.past 10 rfl).trans (u17.here _ rfl))) (own_eqA ho10 (by omega)) ((u20.past 11 rfl).trans (u18.here _ rfl)) (by omega) (by omega)) ?_; intro a21 u21 z21
 obtain ⟨cs23, hcs23, hle23, hput23⟩ := own_put (x' := on) (vs := [.bool on]) ho10 (own_eqA ho10 (by omega)) bov1_1 (by decide) (at_some' (d := false) (i := i) ((bitsV_len _ _).symm) (by omega) (by omega)) 0 (Nat.le_of_ble_eq_true rfl) rfl
 refine sstore (cs := cs23) (vs := [.bool on]) (cs' := putCells cs23 (Int.toNat i * 1 + 0) [.bool on]) z21 rfl (u21.here _ rfl) ((u21.past 12 rfl).trans (u20.here _ rfl)) hcs23 (Try.sizeOf4 _) rfl rfl (by decide) hle23 rfl rfl ?_; intro w22 a22 t22 u22 z22
 have ho24 := hput23 _ t22
 have d25 := (u22.defs.trans (u21.defs.trans (u20.defs.trans (u18.defs.trans (u17.defs.trans d16)))))
 refine seq_end ?_
 refine then_norm ?_
 refine wp_seq ?_
 refine seq_begin ?_
 refine sp z22 rfl rfl (ex_move ((u22.past 7 rfl).trans ((u21.past 7 rfl).trans ((u20.past 7 rfl).trans ((u18.past 7 rfl).trans ((u17.past 7 rfl).trans (u15.here _ rfl))))))) ?_; intro a26 u26 z26
 refine scx z26 rfl rfl (exl_call Try.func72 rfl rfl (cons_ops (u26.here _ rfl) nil_ops)) (c_Back02 (Reads.of_own ho24) (by rw [List.length_set]; (first | exact ((bitsV_len _ _).symm) | rfl)) rfl) ?_; intro w27 a27 t27 u27 z27
 have p29 := fr4 u15.past u17.past u18.past u20.past
 have p30 := fr4 u21.past u22.past u26.past u27.past
 have ho24_31 := (own_keep ho24 t27)
 have hb3_32 := (Ext.keep t27 (Turn.keep t22 (Ext.keep t10 hb3) (own_ne_block no12 ho24_31 (by omega))))
 refine sstore (cs := [.int .u32 0, .int .u32 0, .int .u8 0, .int .u16 0, .int .u16 0]) (vs := [.int .u32 ((hmk fun zQ => at_ (List.set (bitsV (hB x) 104) (Int.toNat i) on) false zQ).1), .int .u32 ((hmk fun zQ => at_ (List.set (bitsV (hB x) 104) (Int.toNat i) on) false zQ).2.1), .int .u8 ((hmk fun zQ => at_ (List.set (bitsV (hB x) 104) (Int.toNat i) on) false zQ).2.2.1), .int .u16 ((hmk fun zQ => at_ (List.set (bitsV (hB x) 104) (Int.toNat i) on) false zQ).2.2.2.1), .int .u16 ((hmk fun zQ => at_ (List.set (bitsV (hB x) 104) (Int.toNat i) on) false zQ).2.2.2.2)]) (cs' := [.int .u32 ((hmk fun zQ => at_ (List.set (bitsV (hB x) 104) (Int.toNat i) on) false zQ).1), .int .u32 ((hmk fun zQ => at_ (List.set (bitsV (hB x) 104) (Int.toNat i) on) false zQ).2.1), .int .u8 ((hmk fun zQ => at_ (List.set (bitsV (hB x) 104) (Int.toNat i) on) false zQ).2.2.1), .int .u16 ((hmk fun zQ => at_ (List.set (bitsV (hB x) 104) (Int.toNat i) on) false zQ).2.2.2.1), .int .u16 ((hmk fun zQ => at_ (List.set (bitsV (hB x) 104) (Int.toNat i) on) false zQ).2.2.2.2)]) z27 rfl ((p30 6 rfl).trans ((p29 6 rfl).trans ((u10.past 6 rfl).trans ((u8.past 6 rfl).trans (u3.here _ rfl))))) (u27.here _ rfl) hb3_32 (Try.sizeOf31 _) rfl rfl (by decide) (Nat.le_of_ble_eq_true rfl) rfl rfl ?_; intro w28 a28 t28 u28 z28
 have d33 := (u28.defs.trans (u27.defs.trans (u26.defs.trans d25)))
 refine seq_end ?_
 refine then_norm ?_
 refine wp_ret ?_
 have s34_6 : a3.eval (.tmp 6) = .pointer (some ⟨b3, 0, none⟩) := (u3.here _ rfl)
 have s35_6 := ((u28.past 6 rfl).trans ((p30 6 rfl).trans ((p29 6 rfl).trans ((u10.past 6 rfl).trans ((u8.past 6 rfl).trans s34_6)))))
 repeat (first | (with_reducible refine then_ret ?_) | (with_reducible refine block_ret ?_))
 refine retl (rs := [.cell 6 31]) Try.results110 ⟨⟨_, s35_6, run_loadVarA (cs := [.int .u32 ((hmk fun zQ => at_ (List.set (bitsV (hB x) 104) (Int.toNat i) on) false zQ).1), .int .u32 ((hmk fun zQ => at_ (List.set (bitsV (hB x) 104) (Int.toNat i) on) false zQ).2.1), .int .u8 ((hmk fun zQ => at_ (List.set (bitsV (hB x) 104) (Int.toNat i) on) false zQ).2.2.1), .int .u16 ((hmk fun zQ => at_ (List.set (bitsV (hB x) 104) (Int.toNat i) on) false zQ).2.2.2.1), .int .u16 ((hmk fun zQ => at_ (List.set (bitsV (hB x) 104) (Int.toNat i) on) false zQ).2.2.2.2)]) (Try.isAgg31 _) (Try.sizeOf31 _) (cells_of (off := 0) t28.here rfl)⟩, trivial⟩ d33 ?_
 have ho24_36 := (own_touch ho24_31 t28.touch (fun jQ hQ eQ => no12 jQ hQ eQ))
 have x37 := (Touch.turn (Touch.trans (Touch.turn (Touch.trans x14 (Ext.touch t10)) t22 (Or.inr (own_base_block no13 ho24_36 (by omega)))) (Ext.touch t27)) t28 (Or.inr yb3_5))
 exact ⟨by rw [← set_bits (v := hB x) (i := i) (on := on) hi.1 hi.2], (x37).ext⟩

end Go.Proofs.Yticodddigaiipaa
