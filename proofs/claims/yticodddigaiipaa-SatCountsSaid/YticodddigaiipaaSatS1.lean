/-
 Contracts of functions of the given program, each proved by a walk through its code: what a call answers, and what it leaves of memory; conditions: those ahead of each theorem's colon.
-/
import Derived.Test.YticodddigaiipaaSatT6
import Derived.Test.YticodddigaiipaaSatK12
import Derived.Test.YticodddigaiipaaSatL6
set_option linter.unusedVariables false
set_option linter.unusedSimpArgs false
namespace Go.Proofs.Yticodddigaiipaa
open Go.RowKit


theorem intK : KeyOk Try.prog 3 iv := keyOk_int Try.underlying3
/-- a set's first bit and its parts, as Node tells them -/
def nodeV (A : List N3) (f : Int) : N3 := if f ≤ 1 then (104, f, f) else nd A f
structure HoldPost (w w' : World) (b ms : Nat) (Fp Fp' : Nat → Prop) (A A' : List N3) (most i : Int) (on : Bool) (S' : Int → Option Int) (n' : Nat) (f r c : Int) : Prop where
 at_ : ArenaAt w' b Fp' A' most
 seen : MapF w' ms iv iv S' n'
 ok : HeldOk A' i on S'
 out : ¬ Fp' ms
 mt : Mut (Fj ms Fp) (Fj ms Fp') w w'
 gr : Grows A A' most c (lev A f)
 res : Res A A' most c (HoldGood A A' i on f r)

set_option maxRecDepth 100000 in
set_option maxHeartbeats 4000000 in
theorem c_Node {w : World} {b : Nat} {Fp : Nat → Prop} {A : List N3} {most : Int} (H : ArenaAt w b Fp A most) (f : Int) (hf : Okn A f) : Calls Try.prog 75 #[.pointer (some ⟨b, 0, none⟩), .int .i64 f] w fun e w' => e = .returned (.tuple #[.int .i64 (nodeV A f).1, .int .i64 (nodeV A f).2.1, .int .i64 (nodeV A f).2.2]) ∧ Ext w w' := by
 have hf' := hf; unfold Okn at hf'
 refine enter 31 Try.ntmps75 Try.func75 rfl (Nat.le_of_ble_eq_true rfl) fun a0 d0 z0 hargs => ?_
 have s0_0 : a0.eval (.tmp 0) = .pointer (some ⟨b, 0, none⟩) := hargs 0 _ rfl
 have s0_1 : a0.eval (.tmp 1) = .int .i64 f := hargs 1 _ rfl
 have x0 := Touch.refl NoF w
 refine rgs mixed 31 [.eq (.int .i64 0), .eq (.int .i64 0), .eq (.int .i64 0)] [[], [], []] d0 z0 (by kernel_rfl) ⟨Ov rfl rfl fun _ _ T _ => ex_assign rfl, Ov rfl rfl fun _ _ T _ => ex_assign rfl, Ov rfl rfl fun _ _ T _ => ex_assign rfl, trivial⟩ ?_
 intro a1 w1 d1 z1 t1 e1 q1
 refine wp_seq_k fun K2 hK2 => ?_
 refine wp_block ?_
 refine wp_seq ?_
 refine seq_begin ?_
 refine sp z1 rfl rfl (ex_move ((q1 0 rfl).trans s0_0)) ?_; intro a3 u3 z3
 refine sp z3 rfl rfl (ex_move ((u3.past 1 rfl).trans ((q1 1 rfl).trans s0_1))) ?_; intro a4 u4 z4
 have H_6 := (ArenaAt.keep H t1)
 refine scx z4 rfl rfl (exl_call Try.func62 rfl rfl (cons_ops ((u4.past 9 rfl).trans (u3.here _ rfl)) (cons_ops (u4.here _ rfl) nil_ops))) (a_has H_6 _) ?_; intro w5 a5 t5 u5 z5
 refine sp z5 rfl rfl (ex_not (u5.here _ rfl)) ?_; intro a7 u7 z7
 refine sp z7 rfl rfl (ex_assign (u7.here _ rfl)) ?_; intro a8 u8 z8
 have d9 := (u8.defs.trans (u7.defs.trans (u5.defs.trans (u4.defs.trans (u3.defs.trans d1)))))
 refine seq_end ?_
 refine then_norm ?_
 have x10 := (Touch.trans (Touch.trans x0 (Ext.touch t1)) (Ext.touch t5))
 rcases Bool.eq_false_or_eq_true (!(decide (Okn A f))) with y11 | y11
 ·have c11 := y11; try simp only [Bool.and_eq_true, Bool.or_eq_true, Bool.and_eq_false_iff, Bool.or_eq_false_iff, Bool.not_eq_true', Bool.not_eq_false', decide_eq_true_eq, decide_eq_false_iff_not] at c11
  have s12_8 : a8.eval (.tmp 8) = .bool (!(decide (Okn A f))) := (u8.here _ rfl)
  refine wp_cond_true (s12_8.trans (by rw [y11])) ?_
  refine rgs mixed 31 [.eq (.int .i64 104), .eq (.int .i64 0), .eq (.int .i64 0)] [[], [], []] d9 z8 (by kernel_rfl) ⟨Ov rfl rfl fun _ _ T _ => ex_assign rfl, Ov rfl rfl fun _ _ T _ => ex_assign rfl, Ov rfl rfl fun _ _ T _ => ex_assign rfl, trivial⟩ ?_
  intro a13 w13 d13 z13 t13 e13 q13
  refine wp_ret ?_
  have s14_4 : a13.eval (.tmp 4) = .int .i64 104 := e13.1
  have s15_5 : a13.eval (.tmp 5) = .int .i64 0 := e13.2.1
  have s16_6 : a13.eval (.tmp 6) = .int .i64 0 := e13.2.2.1
  repeat (first | (with_reducible refine then_ret ?_) | (with_reducible refine block_ret ?_))
  refine rett (rs := [.tmp 4, .tmp 5, .tmp 6]) (vs := [.int .i64 104, .int .i64 0, .int .i64 0]) Try.results75 ⟨s14_4, ⟨s15_5, ⟨s16_6, trivial⟩⟩⟩ (by simp) d13 ?_
  have x17 := (Touch.trans x10 (Ext.touch t13))
  exfalso; simp only [Bool.not_eq_true', decide_eq_false_iff_not] at *; first | contradiction | omega
 ·have c11 := y11; try simp only [Bool.and_eq_true, Bool.or_eq_true, Bool.and_eq_false_iff, Bool.or_eq_false_iff, Bool.not_eq_true', Bool.not_eq_false', decide_eq_true_eq, decide_eq_false_iff_not] at c11
  have s18_8 : a8.eval (.tmp 8) = .bool (!(decide (Okn A f))) := (u8.here _ rfl)
  refine wp_cond_false (s18_8.trans (by rw [y11])) ?_
  have p20 := fr4 q1 u3.past u4.past u5.past
  have s19_1 := ((u8.past 1 rfl).trans ((u7.past 1 rfl).trans ((p20 1 rfl).trans s0_1)))
  refine rgs mixed 31 [.eq (.int .i64 f), .eq (.bool (decide (f ≤ 1))), .eq (.bool (decide (f ≤ 1)))] [[(1, none)], [(14, some 0)], [(15, some 1)]] d9 z8 (by kernel_rfl) ⟨Ov rfl rfl fun _ _ T ⟨k1, _⟩ => ex_move (k1.trans s19_1), Ov rfl rfl fun _ _ T ⟨k14, _⟩ => ex_leq k14 rfl, Ov rfl rfl fun _ _ T ⟨k15, _⟩ => ex_assign k15, trivial⟩ ?_
  intro a21 w21 d21 z21 t21 e21 q21
  by_cases c22 : f ≤ 1
  ·have y22 := decide_eq_true c22
   have s23_13 : a21.eval (.tmp 13) = .bool (decide (f ≤ 1)) := e21.2.2.1
   refine wp_cond_true (s23_13.trans (by rw [y22])) ?_
   have s24_1 := ((q21 1 rfl).trans s19_1)
   refine rgs mixed 31 [.eq (.int .i64 f), .eq (.int .i64 f), .eq (.int .i64 104), .eq (.int .i64 f), .eq (.int .i64 f)] [[(1, none)], [(1, none)], [], [(16, some 0)], [(17, some 1)]] d21 z21 (by kernel_rfl) ⟨Ov rfl rfl fun _ _ T ⟨k1, _⟩ => ex_move (k1.trans s24_1),
    Ov rfl rfl fun _ _ T ⟨k1, _⟩ => ex_move (k1.trans s24_1),
    Ov rfl rfl fun _ _ T _ => ex_assign rfl,
    Ov rfl rfl fun _ _ T ⟨k16, _⟩ => ex_assign k16,
    Ov rfl rfl fun _ _ T ⟨k17, _⟩ => ex_assign k17,
    trivial⟩ ?_
   intro a25 w25 d25 z25 t25 e25 q25
   refine wp_ret ?_
   have s26_4 : a25.eval (.tmp 4) = .int .i64 104 := e25.2.2.1
   have s27_5 : a25.eval (.tmp 5) = .int .i64 f := e25.2.2.2.1
   have s28_6 : a25.eval (.tmp 6) = .int .i64 f := e25.2.2.2.2.1
   repeat (first | (with_reducible refine then_ret ?_) | (with_reducible refine block_ret ?_))
   refine rett (rs := [.tmp 4, .tmp 5, .tmp 6]) (vs := [.int .i64 104, .int .i64 f, .int .i64 f]) Try.results75 ⟨s26_4, ⟨s27_5, ⟨s28_6, trivial⟩⟩⟩ (by simp) d25 ?_
   have x29 := (Touch.trans (Touch.trans x10 (Ext.touch t21)) (Ext.touch t25))
   exact ⟨by unfold nodeV; rw [if_pos c22], (x29).ext⟩
  ·have y22 := decide_eq_false c22
   have s30_13 : a21.eval (.tmp 13) = .bool (decide (f ≤ 1)) := e21.2.2.1
   refine wp_cond_false (s30_13.trans (by rw [y22])) ?_
   refine wp_skip ?_
   repeat (with_reducible refine block_norm ?_)
   refine hK2 _ _ ?_
   have H_31 := (ArenaAt.keep (ArenaAt.keep H_6 t5) t21)
   obtain ⟨bm32, row32, cap32, hb32, ho32, ⟨nQ32, hm32⟩, eF32⟩ := (H_31).ex
   refine wp_seq ?_
   refine seq_begin ?_
   refine sp z21 rfl rfl (ex_move ((q21 0 rfl).trans ((u8.past 0 rfl).trans ((u7.past 0 rfl).trans ((p20 0 rfl).trans s0_0))))) ?_; intro a33 u33 z33
   refine sp z33 rfl rfl (ex_nilCheck (u33.here _ rfl)) ?_; intro a34 u34 z34
   refine sp z34 rfl rfl (ex_fieldAddr (u34.here _ rfl) (fa_123_0 _ _ _)) ?_; intro a35 u35 z35
   refine sp z35 rfl rfl (ex_load (u35.here _ rfl) (Try.isAgg120 _) (cell_of hb32 rfl)) ?_; intro a36 u36 z36
   refine sp z36 rfl rfl (ex_move ((u36.past 1 rfl).trans ((u35.past 1 rfl).trans ((u34.past 1 rfl).trans ((u33.past 1 rfl).trans ((q21 1 rfl).trans s19_1)))))) ?_; intro a37 u37 z37
   refine sp z37 rfl rfl (ex_ixa Try.underlying120 (Try.sizeOf119 _) ((u37.past 21 rfl).trans (u36.here _ rfl)) rfl (u37.here _ rfl) (by omega) (by omega)) ?_; intro a38 u38 z38
   refine sp z38 rfl rfl (ex_loadAgg (cs := [.int .i64 ((at_ A n0 f).1), .int .i64 ((at_ A n0 f).2.1), .int .i64 ((at_ A n0 f).2.2)]) (u38.here _ rfl) (Try.isAgg119 _) (Try.sizeOf119 _) (own_ats (us := [.int .i64 ((at_ A n0 f).1), .int .i64 ((at_ A n0 f).2.1), .int .i64 ((at_ A n0 f).2.2)]) ho32 rfl nvs3 (at_some' (d := n0) (by rfl) (by omega) (by omega)) 0 rfl)) ?_; intro a39 u39 z39
   refine salloc z39 rfl (zv_119 _) ?_; intro b40 w40 a40 t40 g40 hb40 u40 z40
   have n41_b_b40 := ne_lt (lt_of hb32) g40
   have n42_row32_b40 := ne_lt (own_lt ho32 rfl) g40
   have n43_bm32_b40 := ne_lt (MapF.lt hm32) g40
   have o44 : ¬ Fp b40 := fun hQ => by have := ArenaAt.lt H_31 hQ; omega
   have x46 := (Touch.trans x10 (Ext.touch t21))
   have yb40_45 := Nat.le_trans (Touch.size x46) g40
   refine sstore (cs := [.int .i64 0, .int .i64 0, .int .i64 0]) (vs := [.int .i64 ((at_ A n0 f).1), .int .i64 ((at_ A n0 f).2.1), .int .i64 ((at_ A n0 f).2.2)]) (cs' := [.int .i64 ((at_ A n0 f).1), .int .i64 ((at_ A n0 f).2.1), .int .i64 ((at_ A n0 f).2.2)]) z40 rfl (u40.here _ rfl) ((u40.past 24 rfl).trans (u39.here _ rfl)) hb40 (Try.sizeOf119 _) rfl rfl (by decide) (Nat.le_of_ble_eq_true rfl) rfl rfl ?_; intro w47 a47 t47 u47 z47
   have d48 := (u47.defs.trans (u40.defs.trans (u39.defs.trans (u38.defs.trans (u37.defs.trans (u36.defs.trans (u35.defs.trans (u34.defs.trans (u33.defs.trans d21)))))))))
   refine seq_end ?_
   refine then_norm ?_
   have s49_7 : a40.eval (.tmp 7) = .pointer (some ⟨b40, 0, none⟩) := (u40.here _ rfl)
   have s50_7 := ((u47.past 7 rfl).trans s49_7)
   refine rgs mixed 31 [.eq (.pointer (some ⟨b40, 0, none⟩)), .eq (.int .i64 ((at_ A n0 f).1)), .eq (.pointer (some ⟨b40, 1, none⟩)), .eq (.int .i64 ((at_ A n0 f).2.1)), .eq (.pointer (some ⟨b40, 2, none⟩)), .eq (.int .i64 ((at_ A n0 f).2.2)), .eq (.int .i64 ((at_ A n0 f).1)), .eq (.int .i64 ((at_ A n0 f).2.1)), .eq (.int .i64 ((at_ A n0 f).2.2))] [[(7, none)], [(25, some 0)], [(7, none)], [(27, some 2)], [(7, none)], [(29, some 4)], [(26, some 1)], [(28, some 3)], [(30, some 5)]] d48 z47 (by kernel_rfl) ⟨Ov rfl rfl fun _ _ T ⟨k7, _⟩ => ex_fieldAddr (k7.trans s50_7) (fa_119_0 _ _ _),
    Ov rfl rfl fun _ _ T ⟨k25, _⟩ => ex_load k25 (Try.isAgg3 _) (cell_of (Ext.keep T.ext t47.here) rfl),
    Ov rfl rfl fun _ _ T ⟨k7, _⟩ => ex_fieldAddr (k7.trans s50_7) (fa_119_1 _ _ _),
    Ov rfl rfl fun _ _ T ⟨k27, _⟩ => ex_load k27 (Try.isAgg3 _) (cell_of (Ext.keep T.ext t47.here) rfl),
    Ov rfl rfl fun _ _ T ⟨k7, _⟩ => ex_fieldAddr (k7.trans s50_7) (fa_119_2 _ _ _),
    Ov rfl rfl fun _ _ T ⟨k29, _⟩ => ex_load k29 (Try.isAgg3 _) (cell_of (Ext.keep T.ext t47.here) rfl),
    Ov rfl rfl fun _ _ T ⟨k26, _⟩ => ex_assign k26,
    Ov rfl rfl fun _ _ T ⟨k28, _⟩ => ex_assign k28,
    Ov rfl rfl fun _ _ T ⟨k30, _⟩ => ex_assign k30,
    trivial⟩ ?_
   intro a51 w51 d51 z51 t51 e51 q51
   refine wp_ret ?_
   have s52_4 : a51.eval (.tmp 4) = .int .i64 ((at_ A n0 f).1) := e51.2.2.2.2.2.2.1
   have s53_5 : a51.eval (.tmp 5) = .int .i64 ((at_ A n0 f).2.1) := e51.2.2.2.2.2.2.2.1
   have s54_6 : a51.eval (.tmp 6) = .int .i64 ((at_ A n0 f).2.2) := e51.2.2.2.2.2.2.2.2.1
   repeat (first | (with_reducible refine then_ret ?_) | (with_reducible refine block_ret ?_))
   refine rett (rs := [.tmp 4, .tmp 5, .tmp 6]) (vs := [.int .i64 ((at_ A n0 f).1), .int .i64 ((at_ A n0 f).2.1), .int .i64 ((at_ A n0 f).2.2)]) Try.results75 ⟨s52_4, ⟨s53_5, ⟨s54_6, trivial⟩⟩⟩ (by simp) d51 ?_
   have x55 := (Touch.trans (Touch.turn (Touch.trans x46 (Ext.touch t40)) t47 (Or.inr yb40_45)) (Ext.touch t51))
   exact ⟨by unfold nodeV; rw [if_neg c22], (x55).ext⟩

set_option maxRecDepth 100000 in
set_option maxHeartbeats 4000000 in
theorem c_limit_ : ∀ (N : Nat) {w : World} {b ms : Nat} {Fp : Nat → Prop} {A : List N3} {most : Int} {S : Int → Option Int} {cnt : Nat} (H : ArenaAt w b Fp A most) (HS : MapF w ms iv iv S cnt) (hout : ¬ Fp ms) (i : Int) (on : Bool) (f : Int) (hi : 0 ≤ i ∧ i < 104) (hW : Wf A) (hm : (A.length : Int) ≤ most) (hm2 : most ≤ 262144) (hS : HeldOk A i on S) (hf : Okn A f) (hN : 104 - lev A f ≤ N), Calls Try.prog 107 #[.pointer (some ⟨b, 0, none⟩), .int .i64 f, .int .i64 i, .bool on, .map (some ms)] w fun e w' => ∃ Fp' A' r c S' n', e = .returned (.tuple #[.int .i64 r, .int .i64 c]) ∧ HoldPost w w' b ms Fp Fp' A A' most i on S' n' f r c := by
 intro N
 induction N using Nat.strongRecOn with
 | _ N ihs =>
 intro w b ms Fp A most S cnt H HS hout i on f hi hW hm hm2 hS hf hN
 have ih : ∀ {w : World} {b ms : Nat} {Fp : Nat → Prop} {A : List N3} {most : Int} {S : Int → Option Int} {cnt : Nat} (H : ArenaAt w b Fp A most) (HS : MapF w ms iv iv S cnt) (hout : ¬ Fp ms) (i : Int) (on : Bool) (f : Int) (hi : 0 ≤ i ∧ i < 104) (hW : Wf A) (hm : (A.length : Int) ≤ most) (hm2 : most ≤ 262144) (hS : HeldOk A i on S) (hf : Okn A f) (hN' : 104 - lev A f < N), Calls Try.prog 107 #[.pointer (some ⟨b, 0, none⟩), .int .i64 f, .int .i64 i, .bool on, .map (some ms)] w fun e w' => ∃ Fp' A' r c S' n', e = .returned (.tuple #[.int .i64 r, .int .i64 c]) ∧ HoldPost w w' b ms Fp Fp' A A' most i on S' n' f r c := @fun w b ms Fp A most S cnt H HS hout i on f hi hW hm hm2 hS hf h => ihs (104 - lev A f).toNat (by have := (lev_le hW hf).2.1; omega) H HS hout i on f hi hW hm hm2 hS hf (by omega)
 have hf' := hf; unfold Okn at hf'
 refine enter 99 Try.ntmps107 Try.func107 rfl (Nat.le_of_ble_eq_true rfl) fun a0 d0 z0 hargs => ?_
 have s0_0 : a0.eval (.tmp 0) = .pointer (some ⟨b, 0, none⟩) := hargs 0 _ rfl
 have s0_1 : a0.eval (.tmp 1) = .int .i64 f := hargs 1 _ rfl
 have s0_2 : a0.eval (.tmp 2) = .int .i64 i := hargs 2 _ rfl
 have s0_3 : a0.eval (.tmp 3) = .bool on := hargs 3 _ rfl
 have s0_4 : a0.eval (.tmp 4) = .map (some ms) := hargs 4 _ rfl
 have x0 := Touch.refl (Fj ms Fp) w
 refine rgs mixed 99 [.eq (.int .i64 0), .eq (.int .i64 0)] [[], []] d0 z0 (by kernel_rfl) ⟨Ov rfl rfl fun _ _ T _ => ex_assign rfl, Ov rfl rfl fun _ _ T _ => ex_assign rfl, trivial⟩ ?_
 intro a1 w1 d1 z1 t1 e1 q1
 have H_2 := (ArenaAt.keep H t1)
 obtain ⟨bm3, row3, cap3, hb3, ho3, ⟨nQ3, hm3⟩, eF3⟩ := (H_2).ex
 refine wp_seq ?_
 refine seq_begin ?_
 refine sp z1 rfl rfl (ex_move ((q1 0 rfl).trans s0_0)) ?_; intro a4 u4 z4
 refine sp z4 rfl rfl (ex_nilCheck (u4.here _ rfl)) ?_; intro a5 u5 z5
 refine sp z5 rfl rfl (ex_fieldAddr (u5.here _ rfl) (fa_123_0 _ _ _)) ?_; intro a6 u6 z6
 refine sp z6 rfl rfl (ex_load (u6.here _ rfl) (Try.isAgg120 _) (cell_of hb3 rfl)) ?_; intro a7 u7 z7
 have p9 := fr4 q1 u4.past u5.past u6.past
 refine sp z7 rfl rfl (ex_move ((u7.past 1 rfl).trans ((p9 1 rfl).trans s0_1))) ?_; intro a8 u8 z8
 refine sp z8 rfl rfl (ex_ixa Try.underlying120 (Try.sizeOf119 _) ((u8.past 22 rfl).trans (u7.here _ rfl)) rfl (u8.here _ rfl) (by omega) (by omega)) ?_; intro a10 u10 z10
 refine sp z10 rfl rfl (ex_loadAgg (cs := [.int .i64 ((at_ A n0 f).1), .int .i64 ((at_ A n0 f).2.1), .int .i64 ((at_ A n0 f).2.2)]) (u10.here _ rfl) (Try.isAgg119 _) (Try.sizeOf119 _) (own_ats (us := [.int .i64 ((at_ A n0 f).1), .int .i64 ((at_ A n0 f).2.1), .int .i64 ((at_ A n0 f).2.2)]) ho3 rfl nvs3 (at_some' (d := n0) (by rfl) (by omega) (by omega)) 0 rfl)) ?_; intro a11 u11 z11
 refine salloc z11 rfl (zv_119 _) ?_; intro b12 w12 a12 t12 g12 hb12 u12 z12
 have HS_14 := (MapF.keep HS t1)
 have n13_ms_b12 := ne_lt (MapF.lt HS_14) g12
 have n15_b_b12 := ne_lt (lt_of hb3) g12
 have n16_row3_b12 := ne_lt (own_lt ho3 rfl) g12
 have n17_bm3_b12 := ne_lt (MapF.lt hm3) g12
 have o18 : ¬ Fp b12 := fun hQ => by have := ArenaAt.lt H_2 hQ; omega
 have x20 := (Touch.trans x0 (Ext.touch t1))
 have yb12_19 := Nat.le_trans (Touch.size x20) g12
 refine sstore (cs := [.int .i64 0, .int .i64 0, .int .i64 0]) (vs := [.int .i64 ((at_ A n0 f).1), .int .i64 ((at_ A n0 f).2.1), .int .i64 ((at_ A n0 f).2.2)]) (cs' := [.int .i64 ((at_ A n0 f).1), .int .i64 ((at_ A n0 f).2.1), .int .i64 ((at_ A n0 f).2.2)]) z12 rfl (u12.here _ rfl) ((u12.past 25 rfl).trans (u11.here _ rfl)) hb12 (Try.sizeOf119 _) rfl rfl (by decide) (Nat.le_of_ble_eq_true rfl) rfl rfl ?_; intro w21 a21 t21 u21 z21
 have d22 := (u21.defs.trans (u12.defs.trans (u11.defs.trans (u10.defs.trans (u8.defs.trans (u7.defs.trans (u6.defs.trans (u5.defs.trans (u4.defs.trans d1)))))))))
 refine seq_end ?_
 refine then_norm ?_
 refine wp_seq_k fun K23 hK23 => ?_
 refine wp_block ?_
 have s24_12 : a12.eval (.tmp 12) = .pointer (some ⟨b12, 0, none⟩) := (u12.here _ rfl)
 have s25_12 := ((u21.past 12 rfl).trans s24_12)
 have p27 := fr4 u7.past u8.past u10.past u11.past
 have s26_2 := ((u21.past 2 rfl).trans ((u12.past 2 rfl).trans ((p27 2 rfl).trans ((p9 2 rfl).trans s0_2))))
 refine rgs mixed 99 [.eq (.pointer (some ⟨b12, 0, none⟩)), .eq (.int .i64 ((at_ A n0 f).1)), .eq (.int .i64 i), .eq (.bool (decide (i < ((at_ A n0 f).1)))), .eq (.bool (decide (i < ((at_ A n0 f).1))))] [[(12, none)], [(27, some 0)], [(2, none)], [(28, some 1), (29, some 2)], [(30, some 3)]] d22 z21 (by kernel_rfl) ⟨Ov rfl rfl fun _ _ T ⟨k12, _⟩ => ex_fieldAddr (k12.trans s25_12) (fa_119_0 _ _ _),
  Ov rfl rfl fun _ _ T ⟨k27, _⟩ => ex_load k27 (Try.isAgg3 _) (cell_of (Ext.keep T.ext t21.here) rfl),
  Ov rfl rfl fun _ _ T ⟨k2, _⟩ => ex_move (k2.trans s26_2),
  Ov rfl rfl fun _ _ T ⟨k28, k29, _⟩ => ex_gtr k28 k29,
  Ov rfl rfl fun _ _ T ⟨k30, _⟩ => ex_assign k30,
  trivial⟩ ?_
 intro a28 w28 d28 z28 t28 e28 q28
 have H_29 := (ArenaAt.keep (ArenaAt.turn (ArenaAt.keep H_2 t12) t21 o18) t28)
 have HS_30 := (MapF.keep (MapF.same (MapF.keep HS_14 t12) (t21.touch.block _ (MapF.lt (MapF.keep HS_14 t12)) n13_ms_b12)) t28)
 have hb3_31 := (Ext.keep t28 (Turn.keep t21 (Ext.keep t12 hb3) n15_b_b12))
 have ho3_32 := (own_keep (own_touch (own_keep ho3 t12) t21.touch (fun jQ hQ eQ => n16_row3_b12 ((Option.some.inj hQ).trans eQ))) t28)
 have hm3_33 := (MapF.keep (MapF.same (MapF.keep hm3 t12) (t21.touch.block _ (MapF.lt (MapF.keep hm3 t12)) n17_bm3_b12)) t28)
 have x34 := (Touch.trans (Touch.turn (Touch.trans x20 (Ext.touch t12)) t21 (Or.inr yb12_19)) (Ext.touch t28))
 by_cases c35 : i < ((at_ A n0 f).1)
 ·have y35 := decide_eq_true c35
  have s36_26 : a28.eval (.tmp 26) = .bool (decide (i < ((at_ A n0 f).1))) := e28.2.2.2.2.1
  refine wp_cond_true (s36_26.trans (by rw [y35])) ?_
  have s37_1 := ((q28 1 rfl).trans ((u21.past 1 rfl).trans ((u12.past 1 rfl).trans ((p27 1 rfl).trans ((p9 1 rfl).trans s0_1)))))
  refine rgs mixed 99 [.eq (.int .i64 f), .eq (.int .i64 f), .eq (.int .i64 0)] [[(1, none)], [(31, some 0)], []] d28 z28 (by kernel_rfl) ⟨Ov rfl rfl fun _ _ T ⟨k1, _⟩ => ex_move (k1.trans s37_1), Ov rfl rfl fun _ _ T ⟨k31, _⟩ => ex_assign k31, Ov rfl rfl fun _ _ T _ => ex_assign rfl, trivial⟩ ?_
  intro a38 w38 d38 z38 t38 e38 q38
  refine wp_ret ?_
  have s39_10 : a38.eval (.tmp 10) = .int .i64 f := e38.2.1
  have s40_11 : a38.eval (.tmp 11) = .int .i64 0 := e38.2.2.1
  repeat (first | (with_reducible refine then_ret ?_) | (with_reducible refine block_ret ?_))
  refine rett (rs := [.tmp 10, .tmp 11]) (vs := [.int .i64 f, .int .i64 0]) Try.results107 ⟨s39_10, ⟨s40_11, trivial⟩⟩ (by simp) d38 ?_
  have x41 := (Touch.trans x34 (Ext.touch t38))
  have H_42 := (ArenaAt.keep H_29 t38)
  have HS_43 := (MapF.keep HS_30 t38)
  exact ⟨Fp, A, _, _, S, cnt, rfl, H_42, HS_43, hS, hout, ⟨x41, fun _ h => .inl h⟩, grows_same _ _ _, hW, List.prefix_refl _, hm, .inl ⟨rfl, hold_above hW hf (by simp only [lev, nd]; omega)⟩⟩
 ·have y35 := decide_eq_false c35
  have s44_26 : a28.eval (.tmp 26) = .bool (decide (i < ((at_ A n0 f).1))) := e28.2.2.2.2.1
  refine wp_cond_false (s44_26.trans (by rw [y35])) ?_
  have s45_12 := ((q28 12 rfl).trans s25_12)
  have t21.here_46 := (Ext.keep t28 t21.here)
  have s47_2 := ((q28 2 rfl).trans s26_2)
  have s48_3 := ((q28 3 rfl).trans ((u21.past 3 rfl).trans ((u12.past 3 rfl).trans ((p27 3 rfl).trans ((p9 3 rfl).trans s0_3)))))
  refine rgs mixed 99 [.eq (.pointer (some ⟨b12, 0, none⟩)), .eq (.int .i64 ((at_ A n0 f).1)), .eq (.int .i64 i), .eq (.bool (decide (((at_ A n0 f).1) = i))), .eq (.bool (decide (((at_ A n0 f).1) = i))), .eq (if (decide (((at_ A n0 f).1) = i)) = true then .bool on else undef), .eq (.bool ((decide (((at_ A n0 f).1) = i)) && on)), .eq (.bool ((decide (((at_ A n0 f).1) = i)) && on))] [[(12, none)], [(33, some 0)], [(2, none)], [(34, some 1), (35, some 2)], [(36, some 3)], [(3, none), (37, some 4)], [(37, some 4), (38, some 5)], [(39, some 6)]] d28 z28 (by kernel_rfl) ⟨Ov rfl rfl fun _ _ T ⟨k12, _⟩ => ex_fieldAddr (k12.trans s45_12) (fa_119_0 _ _ _),
   Ov rfl rfl fun _ _ T ⟨k33, _⟩ => ex_load k33 (Try.isAgg3 _) (cell_of (Ext.keep T.ext t21.here_46) rfl),
   Ov rfl rfl fun _ _ T ⟨k2, _⟩ => ex_move (k2.trans s47_2),
   Ov rfl rfl fun _ _ T ⟨k34, k35, _⟩ => ex_eql k34 k35,
   Ov rfl rfl fun _ _ T ⟨k36, _⟩ => ex_move k36,
   Og rfl rfl rfl fun _ _ T ⟨k3, k37, _⟩ => ⟨k37, fun hcQ => ex_move (k3.trans s48_3)⟩,
   Ov rfl rfl fun _ _ T ⟨k37, k38, _⟩ => ex_pick_and k37 k38 rfl,
   Ov rfl rfl fun _ _ T ⟨k39, _⟩ => ex_assign k39,
   trivial⟩ ?_
  intro a49 w49 d49 z49 t49 e49 q49
  rcases Bool.eq_false_or_eq_true ((decide (((at_ A n0 f).1) = i)) && on) with y50 | y50
  ·have c50 := y50; try simp only [Bool.and_eq_true, Bool.or_eq_true, Bool.and_eq_false_iff, Bool.or_eq_false_iff, Bool.not_eq_true', Bool.not_eq_false', decide_eq_true_eq, decide_eq_false_iff_not] at c50
   have s51_32 : a49.eval (.tmp 32) = .bool ((decide (((at_ A n0 f).1) = i)) && on) := e49.2.2.2.2.2.2.2.1
   refine wp_cond_true (s51_32.trans (by rw [y50])) ?_
   have s52_12 := ((q49 12 rfl).trans s45_12)
   have t21.here_53 := (Ext.keep t49 t21.here_46)
   refine rgs mixed 99 [.eq (.pointer (some ⟨b12, 2, none⟩)), .eq (.int .i64 ((at_ A n0 f).2.2)), .eq (.int .i64 ((at_ A n0 f).2.2)), .eq (.int .i64 0)] [[(12, none)], [(40, some 0)], [(41, some 1)], []] d49 z49 (by kernel_rfl) ⟨Ov rfl rfl fun _ _ T ⟨k12, _⟩ => ex_fieldAddr (k12.trans s52_12) (fa_119_2 _ _ _),
    Ov rfl rfl fun _ _ T ⟨k40, _⟩ => ex_load k40 (Try.isAgg3 _) (cell_of (Ext.keep T.ext t21.here_53) rfl),
    Ov rfl rfl fun _ _ T ⟨k41, _⟩ => ex_assign k41,
    Ov rfl rfl fun _ _ T _ => ex_assign rfl,
    trivial⟩ ?_
   intro a54 w54 d54 z54 t54 e54 q54
   refine wp_ret ?_
   have s55_10 : a54.eval (.tmp 10) = .int .i64 ((at_ A n0 f).2.2) := e54.2.2.1
   have s56_11 : a54.eval (.tmp 11) = .int .i64 0 := e54.2.2.2.1
   repeat (first | (with_reducible refine then_ret ?_) | (with_reducible refine block_ret ?_))
   refine rett (rs := [.tmp 10, .tmp 11]) (vs := [.int .i64 ((at_ A n0 f).2.2), .int .i64 0]) Try.results107 ⟨s55_10, ⟨s56_11, trivial⟩⟩ (by simp) d54 ?_
   have x57 := (Touch.trans (Touch.trans x34 (Ext.touch t49)) (Ext.touch t54))
   have H_58 := (ArenaAt.keep (ArenaAt.keep H_29 t49) t54)
   have HS_59 := (MapF.keep (MapF.keep HS_30 t49) t54)
   have hq := y50; simp only [Bool.and_eq_true, decide_eq_true_eq] at hq
   have good : HoldGood A A i on f _ := hold_at hW hf (by simp only [lev, nd]; exact hq.1) hi.2
   have e1 : (if on = true then (nd A f).2.2 else (nd A f).2.1) = (nd A f).2.2 := by rw [hq.2]; rfl
   rw [e1] at good
   exact ⟨Fp, A, _, _, S, cnt, rfl, H_58, HS_59, hS, hout, ⟨x57, fun _ h => .inl h⟩, grows_same _ _ _, hW, List.prefix_refl _, hm, .inl ⟨rfl, good⟩⟩
  ·have c50 := y50; try simp only [Bool.and_eq_true, Bool.or_eq_true, Bool.and_eq_false_iff, Bool.or_eq_false_iff, Bool.not_eq_true', Bool.not_eq_false', decide_eq_true_eq, decide_eq_false_iff_not] at c50
   have s60_32 : a49.eval (.tmp 32) = .bool ((decide (((at_ A n0 f).1) = i)) && on) := e49.2.2.2.2.2.2.2.1
   refine wp_cond_false (s60_32.trans (by rw [y50])) ?_
   have s61_12 := ((q49 12 rfl).trans s45_12)
   have t21.here_62 := (Ext.keep t49 t21.here_46)
   have s63_2 := ((q49 2 rfl).trans s47_2)
   refine rgs mixed 99 [.eq (.pointer (some ⟨b12, 0, none⟩)), .eq (.int .i64 ((at_ A n0 f).1)), .eq (.int .i64 i), .eq (.bool (decide (((at_ A n0 f).1) = i))), .eq (.bool (decide (((at_ A n0 f).1) = i)))] [[(12, none)], [(43, some 0)], [(2, none)], [(44, some 1), (45, some 2)], [(46, some 3)]] d49 z49 (by kernel_rfl) ⟨Ov rfl rfl fun _ _ T ⟨k12, _⟩ => ex_fieldAddr (k12.trans s61_12) (fa_119_0 _ _ _),
    Ov rfl rfl fun _ _ T ⟨k43, _⟩ => ex_load k43 (Try.isAgg3 _) (cell_of (Ext.keep T.ext t21.here_62) rfl),
    Ov rfl rfl fun _ _ T ⟨k2, _⟩ => ex_move (k2.trans s63_2),
    Ov rfl rfl fun _ _ T ⟨k44, k45, _⟩ => ex_eql k44 k45,
    Ov rfl rfl fun _ _ T ⟨k46, _⟩ => ex_assign k46,
    trivial⟩ ?_
   intro a64 w64 d64 z64 t64 e64 q64
   have x65 := (Touch.trans (Touch.trans x34 (Ext.touch t49)) (Ext.touch t64))
   by_cases c66 : ((at_ A n0 f).1) = i
   ·have y66 := decide_eq_true c66
    have s67_42 : a64.eval (.tmp 42) = .bool (decide (((at_ A n0 f).1) = i)) := e64.2.2.2.2.1
    refine wp_cond_true (s67_42.trans (by rw [y66])) ?_
    have s68_12 := ((q64 12 rfl).trans s61_12)
    have t21.here_69 := (Ext.keep t64 t21.here_62)
    refine rgs mixed 99 [.eq (.pointer (some ⟨b12, 1, none⟩)), .eq (.int .i64 ((at_ A n0 f).2.1)), .eq (.int .i64 ((at_ A n0 f).2.1)), .eq (.int .i64 0)] [[(12, none)], [(47, some 0)], [(48, some 1)], []] d64 z64 (by kernel_rfl) ⟨Ov rfl rfl fun _ _ T ⟨k12, _⟩ => ex_fieldAddr (k12.trans s68_12) (fa_119_1 _ _ _),
     Ov rfl rfl fun _ _ T ⟨k47, _⟩ => ex_load k47 (Try.isAgg3 _) (cell_of (Ext.keep T.ext t21.here_69) rfl),
     Ov rfl rfl fun _ _ T ⟨k48, _⟩ => ex_assign k48,
     Ov rfl rfl fun _ _ T _ => ex_assign rfl,
     trivial⟩ ?_
    intro a70 w70 d70 z70 t70 e70 q70
    refine wp_ret ?_
    have s71_10 : a70.eval (.tmp 10) = .int .i64 ((at_ A n0 f).2.1) := e70.2.2.1
    have s72_11 : a70.eval (.tmp 11) = .int .i64 0 := e70.2.2.2.1
    repeat (first | (with_reducible refine then_ret ?_) | (with_reducible refine block_ret ?_))
    refine rett (rs := [.tmp 10, .tmp 11]) (vs := [.int .i64 ((at_ A n0 f).2.1), .int .i64 0]) Try.results107 ⟨s71_10, ⟨s72_11, trivial⟩⟩ (by simp) d70 ?_
    have x73 := (Touch.trans x65 (Ext.touch t70))
    have H_74 := (ArenaAt.keep (ArenaAt.keep (ArenaAt.keep H_29 t49) t64) t70)
    have HS_75 := (MapF.keep (MapF.keep (MapF.keep HS_30 t49) t64) t70)
    have hon : on = false := by cases on <;> simp_all
    have good : HoldGood A A i on f _ := hold_at hW hf (by simp only [lev, nd]; omega) hi.2
    have e1 : (if on = true then (nd A f).2.2 else (nd A f).2.1) = (nd A f).2.1 := by rw [hon]; rfl
    rw [e1] at good
    exact ⟨Fp, A, _, _, S, cnt, rfl, H_74, HS_75, hS, hout, ⟨x73, fun _ h => .inl h⟩, grows_same _ _ _, hW, List.prefix_refl _, hm, .inl ⟨rfl, good⟩⟩
   ·have y66 := decide_eq_false c66
    have s76_42 : a64.eval (.tmp 42) = .bool (decide (((at_ A n0 f).1) = i)) := e64.2.2.2.2.1
    refine wp_cond_false (s76_42.trans (by rw [y66])) ?_
    refine wp_skip ?_
    repeat (with_reducible refine block_norm ?_)
    refine hK23 _ _ ?_
    refine wp_seq_k fun K77 hK77 => ?_
    rcases hq82 : S f with _ | q82
    ·skip
     have p84 := fr4 u12.past u21.past q28 q49
     have s83_4 := ((q64 4 rfl).trans ((p84 4 rfl).trans ((p27 4 rfl).trans ((p9 4 rfl).trans s0_4))))
     have s85_1 := ((q64 1 rfl).trans ((p84 1 rfl).trans ((p27 1 rfl).trans ((p9 1 rfl).trans s0_1))))
     have HS_86 := (MapF.keep (MapF.keep HS_30 t49) t64)
     refine rgs mixed 99 [.eq (.map (some ms)), .eq (.int .i64 f), .eq (.tuple #[.int .i64 0, .bool false]), .eq (.tuple #[.int .i64 0, .bool false]), .eq (.int .i64 0), .eq (.bool false), .eq (.int .i64 0), .eq (.bool false)] [[(4, none)], [(1, none)], [(50, some 0), (51, some 1)], [(52, some 2)], [(49, some 3)], [(49, some 3)], [(53, some 4)], [(54, some 5)]] d64 z64 (by kernel_rfl) ⟨Ov rfl rfl fun _ _ T ⟨k4, _⟩ => ex_move (k4.trans s83_4),
      Ov rfl rfl fun _ _ T ⟨k1, _⟩ => ex_move (k1.trans s85_1),
      Ov rfl rfl fun _ _ T ⟨k50, k51, _⟩ => (ex_look_ok (xk := f) (MapF.keep HS_86 T.ext) intK Try.underlying197 (zv_3 _) k50 k51).trans (by rw [hq82]; rfl),
      Ov rfl rfl fun _ _ T ⟨k52, _⟩ => ex_move k52,
      Ov rfl rfl fun _ _ T ⟨k49, _⟩ => ex_extract k49 rfl,
      Ov rfl rfl fun _ _ T ⟨k49, _⟩ => ex_extract k49 rfl,
      Ov rfl rfl fun _ _ T ⟨k53, _⟩ => ex_assign k53,
      Ov rfl rfl fun _ _ T ⟨k54, _⟩ => ex_assign k54,
      trivial⟩ ?_
     intro a87 w87 d87 z87 t87 e87 q87
     have s88_14 : a87.eval (.tmp 14) = .bool false := e87.2.2.2.2.2.2.2.1
     refine rgs mixed 99 [.eq (.bool false)] [[(14, none)]] d87 z87 (by kernel_rfl) ⟨Ov rfl rfl fun _ _ T ⟨k14, _⟩ => ex_move (k14.trans s88_14), trivial⟩ ?_
     intro a89 w89 d89 z89 t89 e89 q89
     have s90_55 : a89.eval (.tmp 55) = .bool false := e89.1
     refine wp_cond_false s90_55 ?_
     refine wp_skip ?_
     repeat (with_reducible refine block_norm ?_)
     refine hK77 _ _ ?_
     have hlt : lev A f < i := by simp only [Bool.and_eq_true, Bool.and_eq_false_iff, decide_eq_true_eq, decide_eq_false_iff_not] at *; simp only [lev, nd] at *; omega
     have nf := node_of hW hf (by omega)
     refine wp_seq ?_
     refine seq_begin ?_
     refine sp z89 rfl rfl (ex_move ((q89 0 rfl).trans ((q87 0 rfl).trans ((q64 0 rfl).trans ((p84 0 rfl).trans ((p27 0 rfl).trans ((p9 0 rfl).trans s0_0))))))) ?_; intro a91 u91 z91
     have p93 := fr4 q64 q87 q89 u91.past
     refine sp z91 rfl rfl (ex_fieldAddr ((p93 12 rfl).trans s61_12) (fa_119_1 _ _ _)) ?_; intro a92 u92 z92
     have t21.here_95 := (Ext.keep t89 (Ext.keep t87 (Ext.keep t64 t21.here_62)))
     refine sp z92 rfl rfl (ex_load (u92.here _ rfl) (Try.isAgg3 _) (cell_of t21.here_95 rfl)) ?_; intro a94 u94 z94
     refine sp z94 rfl rfl (ex_move ((u94.past 2 rfl).trans ((u92.past 2 rfl).trans ((p93 2 rfl).trans s63_2)))) ?_; intro a96 u96 z96
     refine sp z96 rfl rfl (ex_move ((u96.past 3 rfl).trans ((u94.past 3 rfl).trans ((u92.past 3 rfl).trans ((p93 3 rfl).trans ((q49 3 rfl).trans s48_3)))))) ?_; intro a97 u97 z97
     have p99 := fr4 u92.past u94.past u96.past u97.past
     refine sp z97 rfl rfl (ex_move ((p99 4 rfl).trans ((u91.past 4 rfl).trans ((q89 4 rfl).trans ((q87 4 rfl).trans s83_4))))) ?_; intro a98 u98 z98
     have H_101 := (ArenaAt.keep (ArenaAt.keep (ArenaAt.keep (ArenaAt.keep H_29 t49) t64) t87) t89)
     have HS_102 := (MapF.keep (MapF.keep HS_86 t87) t89)
     refine sc z98 rfl rfl (exl_call Try.func107 rfl rfl (cons_ops ((u98.past 58 rfl).trans ((p99 58 rfl).trans (u91.here _ rfl))) (cons_ops ((u98.past 60 rfl).trans ((u97.past 60 rfl).trans ((u96.past 60 rfl).trans (u94.here _ rfl)))) (cons_ops ((u98.past 61 rfl).trans ((u97.past 61 rfl).trans (u96.here _ rfl))) (cons_ops ((u98.past 62 rfl).trans (u97.here _ rfl)) (cons_ops (u98.here _ rfl) nil_ops)))))) (ih H_101 HS_102 hout i on (at_ A n0 f).2.1 hi hW hm hm2 hS nf.2.2.1 (by have := nf.2.2.2.2.2.2.1; simp only [lev, nd] at *; omega)) ?_
     rintro e100 w100 ⟨Fp100, A100, r100, c100, S100, n100, he100, J100⟩; refine ⟨_, he100, ?_⟩; intro a100 u100 z100
     have o103 : ¬ (Fj ms Fp) b12 := fun hQ => hQ.elim (Ne.symm n13_ms_b12) o18
     have i104 := fun jQ (hQ : (Fj ms Fp) jQ) => (hQ.elim (fun eQ => by rw [eQ]; exact (Or.inl (Or.inl rfl))) ((fun jQ hQ => Or.inl (Or.inr hQ)) jQ) : (Fj ms Fp) jQ ∨ w.heap.size ≤ jQ)
     have o105 := Mut.out J100.mt (lt_of t21.here_95) o103
     have x106 := (Touch.trans (Touch.trans x65 (Ext.touch t87)) (Ext.touch t89))
     have i107 := Mut.inF J100.mt x106 i104
     refine sp z100 rfl rfl (ex_move (u100.here _ rfl)) ?_; intro a108 u108 z108
     refine sp z108 rfl rfl (ex_extract (u108.here _ rfl) rfl) ?_; intro a109 u109 z109
     refine sp z109 rfl rfl (ex_extract ((u109.past 57 rfl).trans (u108.here _ rfl)) rfl) ?_; intro a110 u110 z110
     refine sp z110 rfl rfl (ex_assign ((u110.past 65 rfl).trans (u109.here _ rfl))) ?_; intro a111 u111 z111
     refine sp z111 rfl rfl (ex_assign ((u111.past 66 rfl).trans (u110.here _ rfl))) ?_; intro a112 u112 z112
     have d113 := (u112.defs.trans (u111.defs.trans (u110.defs.trans (u109.defs.trans (u108.defs.trans (u100.defs.trans (u98.defs.trans (u97.defs.trans (u96.defs.trans (u94.defs.trans (u92.defs.trans (u91.defs.trans d89))))))))))))
     refine seq_end ?_
     refine then_norm ?_
     refine wp_seq_k fun K114 hK114 => ?_
     have s115_16 : a112.eval (.tmp 16) = .int .i64 c100 := (u112.here _ rfl)
     refine rgs mixed 99 [.eq (.int .i64 c100), .eq (.bool (decide (c100 ≠ 0)))] [[(16, none)], [(67, some 0)]] d113 z112 (by kernel_rfl) ⟨Ov rfl rfl fun _ _ T ⟨k16, _⟩ => ex_move (k16.trans s115_16), Ov rfl rfl fun _ _ T ⟨k67, _⟩ => ex_neq k67 rfl, trivial⟩ ?_
     intro a116 w116 d116 z116 t116 e116 q116
     have x117 := (Touch.trans (Touch.mut x106 J100.mt i104) (Ext.touch t116))
     by_cases c118 : c100 ≠ 0
     ·have y118 := decide_eq_true c118
      have s119_68 : a116.eval (.tmp 68) = .bool (decide (c100 ≠ 0)) := e116.2.1
      refine wp_cond_true (s119_68.trans (by rw [y118])) ?_
      have s120_16 := ((q116 16 rfl).trans s115_16)
      refine rgs mixed 99 [.eq (.int .i64 c100), .eq (.int .i64 0), .eq (.int .i64 c100)] [[(16, none)], [], [(69, some 0)]] d116 z116 (by kernel_rfl) ⟨Ov rfl rfl fun _ _ T ⟨k16, _⟩ => ex_move (k16.trans s120_16), Ov rfl rfl fun _ _ T _ => ex_assign rfl, Ov rfl rfl fun _ _ T ⟨k69, _⟩ => ex_assign k69, trivial⟩ ?_
      intro a121 w121 d121 z121 t121 e121 q121
      refine wp_ret ?_
      have s122_10 : a121.eval (.tmp 10) = .int .i64 0 := e121.2.1
      have s123_11 : a121.eval (.tmp 11) = .int .i64 c100 := e121.2.2.1
      repeat (first | (with_reducible refine then_ret ?_) | (with_reducible refine block_ret ?_))
      refine rett (rs := [.tmp 10, .tmp 11]) (vs := [.int .i64 0, .int .i64 c100]) Try.results107 ⟨s122_10, ⟨s123_11, trivial⟩⟩ (by simp) d121 ?_
      have x124 := (Touch.trans x117 (Ext.touch t121))
      have J100.at__125 := (ArenaAt.keep (ArenaAt.keep J100.at_ t116) t121)
      have J100.seen_126 := (MapF.keep (MapF.keep J100.seen t116) t121)
      have hlvm := lev_mem hW hf (by omega)
      exact ⟨_, _, _, _, _, _, rfl, J100.at__125, J100.seen_126, J100.ok, J100.out, ⟨x124, fun jQ hQ => hQ.elim (fun eQ => .inl (.inl eQ)) ((fun jQ hQ => i107 jQ (Or.inr hQ)) jQ)⟩, (J100.gr.mono (Int.le_of_lt (by have := nf.2.2.2.2.2.2.1; simp only [lev, nd] at *; omega))), J100.res.wf, J100.res.pre, J100.res.room, J100.res.ok.elim (fun hQ => absurd hQ.1 c118) .inr⟩
     ·have y118 := decide_eq_false c118
      have s127_68 : a116.eval (.tmp 68) = .bool (decide (c100 ≠ 0)) := e116.2.1
      refine wp_cond_false (s127_68.trans (by rw [y118])) ?_
      refine wp_skip ?_
      repeat (with_reducible refine block_norm ?_)
      refine hK114 _ _ ?_
      refine wp_seq ?_
      refine seq_begin ?_
      have p129 := fr4 p9 p27 p84 p93
      have p130 := fr4 u98.past u100.past u108.past u109.past
      have p131 := fr4 u110.past u111.past u112.past q116
      refine sp z116 rfl rfl (ex_move ((p131 0 rfl).trans ((p130 0 rfl).trans ((p99 0 rfl).trans ((p129 0 rfl).trans s0_0))))) ?_; intro a128 u128 z128
      refine sp z128 rfl rfl (ex_fieldAddr ((u128.past 12 rfl).trans ((p131 12 rfl).trans ((p130 12 rfl).trans ((p99 12 rfl).trans ((p93 12 rfl).trans s61_12))))) (fa_119_2 _ _ _)) ?_; intro a132 u132 z132
      have t21.here_134 := (Ext.keep t116 (Mut.keep J100.mt t21.here_95 o103))
      refine sp z132 rfl rfl (ex_load (u132.here _ rfl) (Try.isAgg3 _) (cell_of t21.here_134 rfl)) ?_; intro a133 u133 z133
      refine sp z133 rfl rfl (ex_move ((u133.past 2 rfl).trans ((u132.past 2 rfl).trans ((u128.past 2 rfl).trans ((p131 2 rfl).trans ((p130 2 rfl).trans ((p99 2 rfl).trans ((p93 2 rfl).trans s63_2)))))))) ?_; intro a135 u135 z135
      have p137 := fr4 u128.past u132.past u133.past u135.past
      have p138 := fr4 p99 p130 p131 p137
      refine sp z135 rfl rfl (ex_move ((p138 3 rfl).trans ((p93 3 rfl).trans ((q49 3 rfl).trans s48_3)))) ?_; intro a136 u136 z136
      refine sp z136 rfl rfl (ex_move ((u136.past 4 rfl).trans ((p138 4 rfl).trans ((u91.past 4 rfl).trans ((q89 4 rfl).trans ((q87 4 rfl).trans s83_4)))))) ?_; intro a139 u139 z139
      have J100.at__141 := (ArenaAt.keep J100.at_ t116)
      have J100.seen_142 := (MapF.keep J100.seen t116)
      refine sc z139 rfl rfl (exl_call Try.func107 rfl rfl (cons_ops ((u139.past 71 rfl).trans ((u136.past 71 rfl).trans ((u135.past 71 rfl).trans ((u133.past 71 rfl).trans ((u132.past 71 rfl).trans (u128.here _ rfl)))))) (cons_ops ((u139.past 73 rfl).trans ((u136.past 73 rfl).trans ((u135.past 73 rfl).trans (u133.here _ rfl)))) (cons_ops ((u139.past 74 rfl).trans ((u136.past 74 rfl).trans (u135.here _ rfl))) (cons_ops ((u139.past 75 rfl).trans (u136.here _ rfl)) (cons_ops (u139.here _ rfl) nil_ops)))))) (ih J100.at__141 J100.seen_142 J100.out i on (at_ A n0 f).2.2 hi J100.res.wf J100.res.room hm2 J100.ok (ok_pre J100.res.pre nf.2.2.2.1) (by have e2 := nd_pre J100.res.pre nf.2.2.2.1; have := nf.2.2.2.2.2.2.2; simp only [lev, nd] at *; rw [e2]; omega)) ?_
      rintro e140 w140 ⟨Fp140, A140, r140, c140, S140, n140, he140, J140⟩; refine ⟨_, he140, ?_⟩; intro a140 u140 z140
      have o143 : ¬ (Fj ms Fp100) b12 := fun hQ => hQ.elim (Ne.symm n13_ms_b12) (fun hQ => o105 (Or.inr hQ))
      have i144 := fun jQ (hQ : (Fj ms Fp100) jQ) => (hQ.elim (fun eQ => by rw [eQ]; exact (Or.inl (Or.inl rfl))) ((fun jQ hQ => i107 jQ (Or.inr hQ)) jQ) : (Fj ms Fp) jQ ∨ w.heap.size ≤ jQ)
      have o145 := Mut.out J140.mt (lt_of t21.here_134) o143
      have i146 := Mut.inF J140.mt x117 i144
      refine sp z140 rfl rfl (ex_move (u140.here _ rfl)) ?_; intro a147 u147 z147
      refine sp z147 rfl rfl (ex_extract (u147.here _ rfl) rfl) ?_; intro a148 u148 z148
      refine sp z148 rfl rfl (ex_extract ((u148.past 70 rfl).trans (u147.here _ rfl)) rfl) ?_; intro a149 u149 z149
      refine sp z149 rfl rfl (ex_assign ((u149.past 78 rfl).trans (u148.here _ rfl))) ?_; intro a150 u150 z150
      refine sp z150 rfl rfl (ex_assign ((u150.past 79 rfl).trans (u149.here _ rfl))) ?_; intro a151 u151 z151
      have d152 := (u151.defs.trans (u150.defs.trans (u149.defs.trans (u148.defs.trans (u147.defs.trans (u140.defs.trans (u139.defs.trans (u136.defs.trans (u135.defs.trans (u133.defs.trans (u132.defs.trans (u128.defs.trans d116))))))))))))
      refine seq_end ?_
      refine then_norm ?_
      refine wp_seq_k fun K153 hK153 => ?_
      have s154_16 : a151.eval (.tmp 16) = .int .i64 c140 := (u151.here _ rfl)
      refine rgs mixed 99 [.eq (.int .i64 c140), .eq (.bool (decide (c140 ≠ 0)))] [[(16, none)], [(80, some 0)]] d152 z151 (by kernel_rfl) ⟨Ov rfl rfl fun _ _ T ⟨k16, _⟩ => ex_move (k16.trans s154_16), Ov rfl rfl fun _ _ T ⟨k80, _⟩ => ex_neq k80 rfl, trivial⟩ ?_
      intro a155 w155 d155 z155 t155 e155 q155
      have x156 := (Touch.trans (Touch.mut x117 J140.mt i144) (Ext.touch t155))
      by_cases c157 : c140 ≠ 0
      ·have y157 := decide_eq_true c157
       have s158_81 : a155.eval (.tmp 81) = .bool (decide (c140 ≠ 0)) := e155.2.1
       refine wp_cond_true (s158_81.trans (by rw [y157])) ?_
       have s159_16 := ((q155 16 rfl).trans s154_16)
       refine rgs mixed 99 [.eq (.int .i64 c140), .eq (.int .i64 0), .eq (.int .i64 c140)] [[(16, none)], [], [(82, some 0)]] d155 z155 (by kernel_rfl) ⟨Ov rfl rfl fun _ _ T ⟨k16, _⟩ => ex_move (k16.trans s159_16), Ov rfl rfl fun _ _ T _ => ex_assign rfl, Ov rfl rfl fun _ _ T ⟨k82, _⟩ => ex_assign k82, trivial⟩ ?_
       intro a160 w160 d160 z160 t160 e160 q160
       refine wp_ret ?_
       have s161_10 : a160.eval (.tmp 10) = .int .i64 0 := e160.2.1
       have s162_11 : a160.eval (.tmp 11) = .int .i64 c140 := e160.2.2.1
       repeat (first | (with_reducible refine then_ret ?_) | (with_reducible refine block_ret ?_))
       refine rett (rs := [.tmp 10, .tmp 11]) (vs := [.int .i64 0, .int .i64 c140]) Try.results107 ⟨s161_10, ⟨s162_11, trivial⟩⟩ (by simp) d160 ?_
       have x163 := (Touch.trans x156 (Ext.touch t160))
       have J140.at__164 := (ArenaAt.keep (ArenaAt.keep J140.at_ t155) t160)
       have J140.seen_165 := (MapF.keep (MapF.keep J140.seen t155) t160)
       have hlvm := lev_mem hW hf (by omega)
       exact ⟨_, _, _, _, _, _, rfl, J140.at__164, J140.seen_165, J140.ok, J140.out, ⟨x163, fun jQ hQ => hQ.elim (fun eQ => .inl (.inl eQ)) ((fun jQ hQ => i146 jQ (Or.inr hQ)) jQ)⟩, (grows_two hlvm (J100.gr.zero c118) (by have := nf.2.2.2.2.2.2.1; simp only [lev, nd] at *; omega) J140.gr (by have e2 := nd_pre J100.res.pre nf.2.2.2.1; have := nf.2.2.2.2.2.2.2; simp only [lev, nd] at *; rw [e2]; omega)), J140.res.wf, (J100.res.pre.trans J140.res.pre), J140.res.room, J140.res.ok.elim (fun hQ => absurd hQ.1 c157) .inr⟩
      ·have y157 := decide_eq_false c157
       have s166_81 : a155.eval (.tmp 81) = .bool (decide (c140 ≠ 0)) := e155.2.1
       refine wp_cond_false (s166_81.trans (by rw [y157])) ?_
       refine wp_skip ?_
       repeat (with_reducible refine block_norm ?_)
       refine hK153 _ _ ?_
       refine wp_seq ?_
       refine seq_begin ?_
       have p168 := fr4 u136.past u139.past u140.past u147.past
       have p169 := fr4 u148.past u149.past u150.past u151.past
       refine sp z155 rfl rfl (ex_move ((q155 0 rfl).trans ((p169 0 rfl).trans ((p168 0 rfl).trans ((p138 0 rfl).trans ((p129 0 rfl).trans s0_0)))))) ?_; intro a167 u167 z167
       refine sp z167 rfl rfl (ex_fieldAddr ((u167.past 12 rfl).trans ((q155 12 rfl).trans ((p169 12 rfl).trans ((p168 12 rfl).trans ((p138 12 rfl).trans ((p93 12 rfl).trans s61_12)))))) (fa_119_0 _ _ _)) ?_; intro a170 u170 z170
       have t21.here_172 := (Ext.keep t155 (Mut.keep J140.mt t21.here_134 o143))
       refine sp z170 rfl rfl (ex_load (u170.here _ rfl) (Try.isAgg3 _) (cell_of t21.here_172 rfl)) ?_; intro a171 u171 z171
       have p174 := fr4 q155 u167.past u170.past u171.past
       refine sp z171 rfl rfl (ex_move ((p174 15 rfl).trans ((p169 15 rfl).trans ((p168 15 rfl).trans ((p137 15 rfl).trans ((q116 15 rfl).trans ((u112.past 15 rfl).trans (u111.here _ rfl)))))))) ?_; intro a173 u173 z173
       refine sp z173 rfl rfl (ex_move ((u173.past 17 rfl).trans ((p174 17 rfl).trans ((u151.past 17 rfl).trans (u150.here _ rfl))))) ?_; intro a175 u175 z175
       have J140.at__177 := (ArenaAt.keep J140.at_ t155)
       have len2 := J140.res.wf.len
       have roomm := J140.res.room
       have g1 := J100.res.ok.elim (fun hQ => hQ.2) (fun hQ => absurd hQ (by have := c118; omega))
       have g2 := J140.res.ok.elim (fun hQ => hQ.2) (fun hQ => absurd hQ (by have := c157; omega))
       have RM := hold_fin (most := most) hW hf hlt hi.2 J100.res.wf J100.res.pre g1 J140.res.wf J140.res.pre J140.res.room g2
       refine sc z175 rfl rfl (exl_call Try.func102 rfl rfl (cons_ops ((u175.past 84 rfl).trans ((u173.past 84 rfl).trans ((u171.past 84 rfl).trans ((u170.past 84 rfl).trans (u167.here _ rfl))))) (cons_ops ((u175.past 86 rfl).trans ((u173.past 86 rfl).trans (u171.here _ rfl))) (cons_ops ((u175.past 87 rfl).trans (u173.here _ rfl)) (cons_ops (u175.here _ rfl) nil_ops))))) (c_mk J140.at__177 _ _ _ (by omega) (by omega)) ?_
       rintro e176 w176 ⟨Fp176, he176, H176, m176⟩; refine ⟨_, he176, ?_⟩; intro a176 u176 z176
       have o178 := Mut.out m176 (lt_of t21.here_172) (fun hQ => o145 (Or.inr hQ))
       have J140.seen_179 := (MapF.keep J140.seen t155)
       have o180 := Mut.out m176 (MapF.lt J140.seen_179) J140.out
       have i181 := Mut.inF m176 x156 (fun jQ hQ => i146 jQ (Or.inr hQ))
       refine sp z176 rfl rfl (ex_move (u176.here _ rfl)) ?_; intro a182 u182 z182
       refine sp z182 rfl rfl (ex_extract (u182.here _ rfl) rfl) ?_; intro a183 u183 z183
       refine sp z183 rfl rfl (ex_extract ((u183.past 83 rfl).trans (u182.here _ rfl)) rfl) ?_; intro a184 u184 z184
       refine sp z184 rfl rfl (ex_assign ((u184.past 90 rfl).trans (u183.here _ rfl))) ?_; intro a185 u185 z185
       refine sp z185 rfl rfl (ex_assign ((u185.past 91 rfl).trans (u184.here _ rfl))) ?_; intro a186 u186 z186
       have d187 := (u186.defs.trans (u185.defs.trans (u184.defs.trans (u183.defs.trans (u182.defs.trans (u176.defs.trans (u175.defs.trans (u173.defs.trans (u171.defs.trans (u170.defs.trans (u167.defs.trans d155)))))))))))
       refine seq_end ?_
       refine then_norm ?_
       refine wp_seq_k fun K188 hK188 => ?_
       have s189_16 : a186.eval (.tmp 16) = .int .i64 ((mkF A140 most ((at_ A n0 f).1, r100, r140)).2.2) := (u186.here _ rfl)
       refine rgs mixed 99 [.eq (.int .i64 ((mkF A140 most ((at_ A n0 f).1, r100, r140)).2.2)), .eq (.bool (decide (((mkF A140 most ((at_ A n0 f).1, r100, r140)).2.2) = 0)))] [[(16, none)], [(92, some 0)]] d187 z186 (by kernel_rfl) ⟨Ov rfl rfl fun _ _ T ⟨k16, _⟩ => ex_move (k16.trans s189_16), Ov rfl rfl fun _ _ T ⟨k92, _⟩ => ex_eql k92 rfl, trivial⟩ ?_
       intro a190 w190 d190 z190 t190 e190 q190
       have x191 := (Touch.trans (Touch.mut x156 m176 (fun jQ hQ => i146 jQ (Or.inr hQ))) (Ext.touch t190))
       by_cases c192 : ((mkF A140 most ((at_ A n0 f).1, r100, r140)).2.2) = 0
       ·have y192 := decide_eq_true c192
        have s193_93 : a190.eval (.tmp 93) = .bool (decide (((mkF A140 most ((at_ A n0 f).1, r100, r140)).2.2) = 0)) := e190.2.1
        refine wp_cond_true (s193_93.trans (by rw [y192])) ?_
        refine seq_begin ?_
        have p195 := fr4 u173.past u175.past u176.past u182.past
        have p196 := fr4 p168 p169 p174 p195
        have p197 := fr4 u183.past u184.past u185.past u186.past
        refine sp z190 rfl rfl (ex_move ((q190 4 rfl).trans ((p197 4 rfl).trans ((p196 4 rfl).trans ((p138 4 rfl).trans ((u91.past 4 rfl).trans ((q89 4 rfl).trans ((q87 4 rfl).trans s83_4)))))))) ?_; intro a194 u194 z194
        refine sp z194 rfl rfl (ex_move ((u194.past 1 rfl).trans ((q190 1 rfl).trans ((p197 1 rfl).trans ((p196 1 rfl).trans ((p138 1 rfl).trans ((u91.past 1 rfl).trans ((q89 1 rfl).trans ((q87 1 rfl).trans s85_1))))))))) ?_; intro a198 u198 z198
        refine sp z198 rfl rfl (ex_move ((u198.past 18 rfl).trans ((u194.past 18 rfl).trans ((q190 18 rfl).trans ((u186.past 18 rfl).trans (u185.here _ rfl)))))) ?_; intro a199 u199 z199
        have J140.seen_201 := (MapF.keep (MapF.same J140.seen_179 (Mut.block m176 (MapF.lt J140.seen_179) J140.out)) t190)
        refine smapu (xk := f) (yv := (mkF A140 most ((at_ A n0 f).1, r100, r140)).2.1) z199 rfl intK Try.underlying197 J140.seen_201 ((u199.past 94 rfl).trans ((u198.past 94 rfl).trans (u194.here _ rfl))) ((u199.past 95 rfl).trans (u198.here _ rfl)) (u199.here _ rfl) ?_; intro o200 w200 a200 t200 hm200 u200 z200
        have d202 := (u200.defs.trans (u199.defs.trans (u198.defs.trans (u194.defs.trans d190))))
        refine seq_end ?_
        repeat (with_reducible refine block_norm ?_)
        refine hK188 _ _ ?_
        have s203_18 : a185.eval (.tmp 18) = .int .i64 ((mkF A140 most ((at_ A n0 f).1, r100, r140)).2.1) := (u185.here _ rfl)
        have p205 := fr4 q190 u194.past u198.past u199.past
        have s204_18 := ((u200.past 18 rfl).trans ((p205 18 rfl).trans ((u186.past 18 rfl).trans s203_18)))
        have s206_16 := ((u200.past 16 rfl).trans ((p205 16 rfl).trans s189_16))
        refine rgs mixed 99 [.eq (.int .i64 ((mkF A140 most ((at_ A n0 f).1, r100, r140)).2.1)), .eq (.int .i64 ((mkF A140 most ((at_ A n0 f).1, r100, r140)).2.2)), .eq (.int .i64 ((mkF A140 most ((at_ A n0 f).1, r100, r140)).2.1)), .eq (.int .i64 ((mkF A140 most ((at_ A n0 f).1, r100, r140)).2.2))] [[(18, none)], [(16, none)], [(97, some 0)], [(98, some 1)]] d202 z200 (by kernel_rfl) ⟨Ov rfl rfl fun _ _ T ⟨k18, _⟩ => ex_move (k18.trans s204_18),
         Ov rfl rfl fun _ _ T ⟨k16, _⟩ => ex_move (k16.trans s206_16),
         Ov rfl rfl fun _ _ T ⟨k97, _⟩ => ex_assign k97,
         Ov rfl rfl fun _ _ T ⟨k98, _⟩ => ex_assign k98,
         trivial⟩ ?_
        intro a207 w207 d207 z207 t207 e207 q207
        refine wp_ret ?_
        have s208_10 : a207.eval (.tmp 10) = .int .i64 ((mkF A140 most ((at_ A n0 f).1, r100, r140)).2.1) := e207.2.2.1
        have s209_11 : a207.eval (.tmp 11) = .int .i64 ((mkF A140 most ((at_ A n0 f).1, r100, r140)).2.2) := e207.2.2.2.1
        repeat (first | (with_reducible refine then_ret ?_) | (with_reducible refine block_ret ?_))
        refine rett (rs := [.tmp 10, .tmp 11]) (vs := [.int .i64 ((mkF A140 most ((at_ A n0 f).1, r100, r140)).2.1), .int .i64 ((mkF A140 most ((at_ A n0 f).1, r100, r140)).2.2)]) Try.results107 ⟨s208_10, ⟨s209_11, trivial⟩⟩ (by simp) d207 ?_
        have x210 := (Touch.trans (Touch.turn x191 t200 (Or.inl (Or.inl rfl))) (Ext.touch t207))
        have H176_211 := (ArenaAt.keep (ArenaAt.turn (ArenaAt.keep H176 t190) t200 o180) t207)
        have hm200_212 := (MapF.keep hm200 t207)
        have hlvm := lev_mem hW hf (by omega)
        have gr := grows_mk (r1 := r100) (r2 := r140) hlvm (J100.gr.zero c118) (by have := nf.2.2.2.2.2.2.1; simp only [lev, nd] at *; omega) (J140.gr.zero c157) (by have e2 := nd_pre J100.res.pre nf.2.2.2.1; have := nf.2.2.2.2.2.2.2; simp only [lev, nd] at *; rw [e2]; omega) len2
        have pre3 := (J100.res.pre.trans J140.res.pre).trans RM.pre
        have good := RM.ok.elim (fun hQ => hQ.2) (fun hQ => absurd hQ (by have := c192; simp only [lev, nd] at *; omega))
        exact ⟨_, _, _, _, _, _, rfl, H176_211, hm200_212, (J140.ok.pre J140.res.wf RM.wf RM.pre).put (ok_pre pre3 hf) (good.base hW RM.wf pre3 hf), o180, ⟨x210, fun jQ hQ => hQ.elim (fun eQ => .inl (.inl eQ)) (i181 jQ)⟩, gr, RM.wf, pre3, RM.room, .inl ⟨c192, good⟩⟩
       ·have y192 := decide_eq_false c192
        have s213_93 : a190.eval (.tmp 93) = .bool (decide (((mkF A140 most ((at_ A n0 f).1, r100, r140)).2.2) = 0)) := e190.2.1
        refine wp_cond_false (s213_93.trans (by rw [y192])) ?_
        refine wp_skip ?_
        repeat (with_reducible refine block_norm ?_)
        refine hK188 _ _ ?_
        have s214_18 : a185.eval (.tmp 18) = .int .i64 ((mkF A140 most ((at_ A n0 f).1, r100, r140)).2.1) := (u185.here _ rfl)
        have s215_18 := ((q190 18 rfl).trans ((u186.past 18 rfl).trans s214_18))
        have s216_16 := ((q190 16 rfl).trans s189_16)
        refine rgs mixed 99 [.eq (.int .i64 ((mkF A140 most ((at_ A n0 f).1, r100, r140)).2.1)), .eq (.int .i64 ((mkF A140 most ((at_ A n0 f).1, r100, r140)).2.2)), .eq (.int .i64 ((mkF A140 most ((at_ A n0 f).1, r100, r140)).2.1)), .eq (.int .i64 ((mkF A140 most ((at_ A n0 f).1, r100, r140)).2.2))] [[(18, none)], [(16, none)], [(97, some 0)], [(98, some 1)]] d190 z190 (by kernel_rfl) ⟨Ov rfl rfl fun _ _ T ⟨k18, _⟩ => ex_move (k18.trans s215_18),
         Ov rfl rfl fun _ _ T ⟨k16, _⟩ => ex_move (k16.trans s216_16),
         Ov rfl rfl fun _ _ T ⟨k97, _⟩ => ex_assign k97,
         Ov rfl rfl fun _ _ T ⟨k98, _⟩ => ex_assign k98,
         trivial⟩ ?_
        intro a217 w217 d217 z217 t217 e217 q217
        refine wp_ret ?_
        have s218_10 : a217.eval (.tmp 10) = .int .i64 ((mkF A140 most ((at_ A n0 f).1, r100, r140)).2.1) := e217.2.2.1
        have s219_11 : a217.eval (.tmp 11) = .int .i64 ((mkF A140 most ((at_ A n0 f).1, r100, r140)).2.2) := e217.2.2.2.1
        repeat (first | (with_reducible refine then_ret ?_) | (with_reducible refine block_ret ?_))
        refine rett (rs := [.tmp 10, .tmp 11]) (vs := [.int .i64 ((mkF A140 most ((at_ A n0 f).1, r100, r140)).2.1), .int .i64 ((mkF A140 most ((at_ A n0 f).1, r100, r140)).2.2)]) Try.results107 ⟨s218_10, ⟨s219_11, trivial⟩⟩ (by simp) d217 ?_
        have x220 := (Touch.trans x191 (Ext.touch t217))
        have H176_221 := (ArenaAt.keep (ArenaAt.keep H176 t190) t217)
        have J140.seen_222 := (MapF.keep (MapF.keep (MapF.same J140.seen_179 (Mut.block m176 (MapF.lt J140.seen_179) J140.out)) t190) t217)
        have hlvm := lev_mem hW hf (by omega)
        have gr := grows_mk (r1 := r100) (r2 := r140) hlvm (J100.gr.zero c118) (by have := nf.2.2.2.2.2.2.1; simp only [lev, nd] at *; omega) (J140.gr.zero c157) (by have e2 := nd_pre J100.res.pre nf.2.2.2.1; have := nf.2.2.2.2.2.2.2; simp only [lev, nd] at *; rw [e2]; omega) len2
        exact ⟨_, _, _, _, _, _, rfl, H176_221, J140.seen_222, J140.ok.pre J140.res.wf RM.wf RM.pre, o180, ⟨x220, fun jQ hQ => hQ.elim (fun eQ => .inl (.inl eQ)) (i181 jQ)⟩, gr, RM.wf, (J100.res.pre.trans J140.res.pre).trans RM.pre, RM.room, RM.ok.elim (fun hQ => absurd hQ.1 c192) .inr⟩
    ·skip
     have p224 := fr4 u12.past u21.past q28 q49
     have s223_4 := ((q64 4 rfl).trans ((p224 4 rfl).trans ((p27 4 rfl).trans ((p9 4 rfl).trans s0_4))))
     have s225_1 := ((q64 1 rfl).trans ((p224 1 rfl).trans ((p27 1 rfl).trans ((p9 1 rfl).trans s0_1))))
     have HS_226 := (MapF.keep (MapF.keep HS_30 t49) t64)
     refine rgs mixed 99 [.eq (.map (some ms)), .eq (.int .i64 f), .eq (.tuple #[.int .i64 q82, .bool true]), .eq (.tuple #[.int .i64 q82, .bool true]), .eq (.int .i64 q82), .eq (.bool true), .eq (.int .i64 q82), .eq (.bool true)] [[(4, none)], [(1, none)], [(50, some 0), (51, some 1)], [(52, some 2)], [(49, some 3)], [(49, some 3)], [(53, some 4)], [(54, some 5)]] d64 z64 (by kernel_rfl) ⟨Ov rfl rfl fun _ _ T ⟨k4, _⟩ => ex_move (k4.trans s223_4),
      Ov rfl rfl fun _ _ T ⟨k1, _⟩ => ex_move (k1.trans s225_1),
      Ov rfl rfl fun _ _ T ⟨k50, k51, _⟩ => (ex_look_ok (xk := f) (MapF.keep HS_226 T.ext) intK Try.underlying197 (zv_3 _) k50 k51).trans (by rw [hq82]; rfl),
      Ov rfl rfl fun _ _ T ⟨k52, _⟩ => ex_move k52,
      Ov rfl rfl fun _ _ T ⟨k49, _⟩ => ex_extract k49 rfl,
      Ov rfl rfl fun _ _ T ⟨k49, _⟩ => ex_extract k49 rfl,
      Ov rfl rfl fun _ _ T ⟨k53, _⟩ => ex_assign k53,
      Ov rfl rfl fun _ _ T ⟨k54, _⟩ => ex_assign k54,
      trivial⟩ ?_
     intro a227 w227 d227 z227 t227 e227 q227
     have s228_14 : a227.eval (.tmp 14) = .bool true := e227.2.2.2.2.2.2.2.1
     refine rgs mixed 99 [.eq (.bool true)] [[(14, none)]] d227 z227 (by kernel_rfl) ⟨Ov rfl rfl fun _ _ T ⟨k14, _⟩ => ex_move (k14.trans s228_14), trivial⟩ ?_
     intro a229 w229 d229 z229 t229 e229 q229
     have s230_55 : a229.eval (.tmp 55) = .bool true := e229.1
     refine wp_cond_true s230_55 ?_
     have s231_13 : a227.eval (.tmp 13) = .int .i64 q82 := e227.2.2.2.2.2.2.1
     have s232_13 := ((q229 13 rfl).trans s231_13)
     refine rgs mixed 99 [.eq (.int .i64 q82), .eq (.int .i64 q82), .eq (.int .i64 0)] [[(13, none)], [(56, some 0)], []] d229 z229 (by kernel_rfl) ⟨Ov rfl rfl fun _ _ T ⟨k13, _⟩ => ex_move (k13.trans s232_13), Ov rfl rfl fun _ _ T ⟨k56, _⟩ => ex_assign k56, Ov rfl rfl fun _ _ T _ => ex_assign rfl, trivial⟩ ?_
     intro a233 w233 d233 z233 t233 e233 q233
     refine wp_ret ?_
     have s234_10 : a233.eval (.tmp 10) = .int .i64 q82 := e233.2.1
     have s235_11 : a233.eval (.tmp 11) = .int .i64 0 := e233.2.2.1
     repeat (first | (with_reducible refine then_ret ?_) | (with_reducible refine block_ret ?_))
     refine rett (rs := [.tmp 10, .tmp 11]) (vs := [.int .i64 q82, .int .i64 0]) Try.results107 ⟨s234_10, ⟨s235_11, trivial⟩⟩ (by simp) d233 ?_
     have x236 := (Touch.trans (Touch.trans (Touch.trans x65 (Ext.touch t227)) (Ext.touch t229)) (Ext.touch t233))
     have H_237 := (ArenaAt.keep (ArenaAt.keep (ArenaAt.keep (ArenaAt.keep (ArenaAt.keep H_29 t49) t64) t227) t229) t233)
     have HS_238 := (MapF.keep (MapF.keep (MapF.keep HS_226 t227) t229) t233)
     exact ⟨Fp, A, _, _, S, cnt, rfl, H_237, HS_238, hS, hout, ⟨x236, fun _ h => .inl h⟩, grows_same _ _ _, hW, List.prefix_refl _, hm, .inl ⟨rfl, (hS _ _ hq82).2⟩⟩

theorem c_limit {w : World} {b ms : Nat} {Fp : Nat → Prop} {A : List N3} {most : Int} {S : Int → Option Int} {cnt : Nat} (H : ArenaAt w b Fp A most) (HS : MapF w ms iv iv S cnt) (hout : ¬ Fp ms) (i : Int) (on : Bool) (f : Int) (hi : 0 ≤ i ∧ i < 104) (hW : Wf A) (hm : (A.length : Int) ≤ most) (hm2 : most ≤ 262144) (hS : HeldOk A i on S) (hf : Okn A f) : Calls Try.prog 107 #[.pointer (some ⟨b, 0, none⟩), .int .i64 f, .int .i64 i, .bool on, .map (some ms)] w fun e w' => ∃ Fp' A' r c S' n', e = .returned (.tuple #[.int .i64 r, .int .i64 c]) ∧ HoldPost w w' b ms Fp Fp' A A' most i on S' n' f r c := c_limit_ (104 - lev A f).toNat H HS hout i on f hi hW hm hm2 hS hf (by omega)
end Go.Proofs.Yticodddigaiipaa
