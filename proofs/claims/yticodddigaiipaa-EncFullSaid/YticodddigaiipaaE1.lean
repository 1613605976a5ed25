/-
  Contracts of functions of the given program, each proved by a walk through its code: what a call answers, and what it leaves of memory; conditions: those ahead of each theorem's colon.
-/
import Derived.Test.YticodddigaiipaaT8
set_option linter.unusedVariables false
set_option linter.unusedSimpArgs false
namespace Go.Proofs.Yticodddigaiipaa
open Go.RowKit
theorem cv_22_55 {n : Int} {w : World} : (convert 22 55 (.int .u32 n)).run Try.prog w = .ok (.int .u64 (IntKind.u64.wrap n)) w := run_conv Try.underlying22 Try.underlying55
theorem cvn_22_55 {n : Int} {w : World} (h : 0 ≤ n ∧ n ≤ 18446744073709551615) : (convert 22 55 (.int .u32 n)).run Try.prog w = .ok (.int .u64 n) w := by rw [cv_22_55, wrap_u64 h]

theorem wrap_dbl {k : Nat} (h : k ≤ 62) : IntKind.u64.wrap (2 ^ k * 2) = 2 ^ (k + 1) := by
  have h1 : (2 : Int) ^ (k + 1) ≤ 2 ^ 63 := by
    have := Nat.pow_le_pow_right (n := 2) (by omega) (show k + 1 ≤ 63 by omega)
    exact_mod_cast this
  have h0 : (0 : Int) < 2 ^ (k + 1) := Int.pow_pos (by omega)
  rw [← Int.pow_succ, wrap_u64 ⟨by omega, by omega⟩]
theorem div_u64 {x : Int} {k : Nat} (h : 0 ≤ x ∧ x ≤ 4294967295) : 0 ≤ x / 2 ^ k ∧ x / 2 ^ k ≤ 18446744073709551615 := by
  have h1 : 0 ≤ x / 2 ^ k := Int.ediv_nonneg h.1 (Int.le_of_lt (Int.pow_pos (by decide)))
  have h2 : x / 2 ^ k ≤ x := Int.ediv_le_self _ h.1
  exact ⟨h1, by omega⟩

set_option maxRecDepth 100000 in
set_option maxHeartbeats 4000000 in
theorem c_rsize {w : World} (n : Int) (hn : 0 ≤ n ∧ n ≤ 32) : Calls Try.prog 99 #[.int .i64 n] w fun e w' => e = .returned (.int .u64 (2 ^ (32 - n).toNat)) ∧ Ext w w' := by
  refine enter 13 Try.ntmps99 Try.func99 rfl (Nat.le_of_ble_eq_true rfl) fun a0 d0 z0 hargs => ?_
  have s0_0 : a0.eval (.tmp 0) = .int .i64 n := hargs 0 _ rfl
  have x0 := Touch.refl NoF w
  refine rgs mixed 13 [.eq (.int .u64 0)] [[]] d0 z0 (by kernel_rfl) ⟨Ov rfl rfl fun _ _ T _ => ex_assign rfl, trivial⟩ ?_
  intro a1 w1 d1 z1 t1 e1 q1
  refine rgs mixed 13 [.eq (.int .u64 1)] [[]] d1 z1 (by kernel_rfl) ⟨Ov rfl rfl fun _ _ T _ => ex_assign rfl, trivial⟩ ?_
  intro a2 w2 d2 z2 t2 e2 q2
  refine wp_seq_k fun K3 hK3 => ?_
  have s4_0 := ((q2 0 rfl).trans ((q1 0 rfl).trans s0_0))
  refine rgs mixed 13 [.eq (.int .i64 n), .eq (.int .i64 n)] [[(0, none)], [(5, some 0)]] d2 z2 (by kernel_rfl) ⟨Ov rfl rfl fun _ _ T ⟨k0, _⟩ => ex_move (k0.trans s4_0), Ov rfl rfl fun _ _ T ⟨k5, _⟩ => ex_assign k5, trivial⟩ ?_
  intro a5 w5 d5 z5 t5 e5 q5
  refine wp_block ?_
  have s7_2 : a1.eval (.tmp 2) = .int .u64 0 := e1.1
  have s8_2 := ((q5 2 rfl).trans ((q2 2 rfl).trans s7_2))
  have s9_3 : a2.eval (.tmp 3) = .int .u64 1 := e2.1
  have s10_3 := ((q5 3 rfl).trans s9_3)
  have s11_4 : a5.eval (.tmp 4) = .int .i64 n := e5.2.1
  have x12 := (Touch.trans (Touch.trans (Touch.trans x0 (Ext.touch t1)) (Ext.touch t2)) (Ext.touch t5))
  refine wp_loopg (σ := Nat) (fun nQ aQ wQ => ∃ k : Nat, nQ = (32 - k) ∧
    aQ.defers = [] ∧
    aQ.tmps.size = 13 ∧
    aQ.eval (.tmp 2) = .int .u64 0 ∧
    aQ.eval (.tmp 3) = .int .u64 (2 ^ k) ∧
    aQ.eval (.tmp 4) = .int .i64 (n + (k : Int)) ∧
    Touch (NoF) w wQ ∧
    (k ≤ 32) ∧
    (n + (k : Int) ≤ 32)) (fun nQ => nQ) _ ⟨0, rfl, d5, z5, s8_2, (s10_3.trans (by first | rfl | (congr 1; omega) | (rw [wrap_dbl (by omega)]))), (s11_4.trans (by first | rfl | (congr 1; omega) | (rw [wrap_dbl (by omega)]))), x12, by omega, by omega⟩ ?_
  rintro nQ6 a6 w6 ⟨k, hmu6, d6, z6, s6_2, s6_3, s6_4, x6, hk, hk2⟩
  refine wp_seq_k fun K13 hK13 => ?_
  refine rgs mixed 13 [.eq (.int .i64 (n + (k : Int))), .eq (.bool (decide ((n + (k : Int)) < 32)))] [[(4, none)], [(6, some 0)]] d6 z6 (by kernel_rfl) ⟨Ov rfl rfl fun _ _ T ⟨k4, _⟩ => ex_move (k4.trans s6_4), Ov rfl rfl fun _ _ T ⟨k6, _⟩ => ex_lss k6 rfl, trivial⟩ ?_
  intro a14 w14 d14 z14 t14 e14 q14
  by_cases c15 : (n + (k : Int)) < 32
  · have y15 := decide_eq_true c15
    have s16_7 : a14.eval (.tmp 7) = .bool (decide ((n + (k : Int)) < 32)) := e14.2.1
    refine wp_cond_true (s16_7.trans (by rw [y15])) ?_
    refine wp_skip ?_
    repeat (with_reducible refine block_norm ?_)
    refine hK13 _ _ ?_
    refine wp_seq_k fun K17 hK17 => ?_
    refine wp_block ?_
    have s18_3 := ((q14 3 rfl).trans s6_3)
    refine rg mixed 13 [.eq (.int .u64 (2 ^ k)), .eq (.int .u64 (IntKind.u64.wrap ((2 ^ k) * 2))), .eq (.int .u64 (IntKind.u64.wrap ((2 ^ k) * 2)))] [[(3, none)], [(10, some 0)], [(11, some 1)]] d14 z14 (by kernel_rfl) ⟨Ov rfl rfl fun _ _ T ⟨k3, _⟩ => ex_move (k3.trans s18_3), Ov rfl rfl fun _ _ T ⟨k10, _⟩ => ex_mul k10 rfl, Ov rfl rfl fun _ _ T ⟨k11, _⟩ => ex_assign k11, trivial⟩ ?_
    intro a19 w19 d19 z19 t19 e19 q19
    repeat (with_reducible refine block_norm ?_)
    refine hK17 _ _ ?_
    have s20_4 := ((q19 4 rfl).trans ((q14 4 rfl).trans s6_4))
    refine rg mixed 13 [.eq (.int .i64 (n + (k : Int))), .eq (.int .i64 ((n + (k : Int)) + 1)), .eq (.int .i64 ((n + (k : Int)) + 1))] [[(4, none)], [(8, some 0)], [(9, some 1)]] d19 z19 (by kernel_rfl) ⟨Ov rfl rfl fun _ _ T ⟨k4, _⟩ => ex_move (k4.trans s20_4), Ov rfl rfl fun _ _ T ⟨k8, _⟩ => ex_add64 k8 rfl (by omega), Ov rfl rfl fun _ _ T ⟨k9, _⟩ => ex_assign k9, trivial⟩ ?_
    intro a21 w21 d21 z21 t21 e21 q21
    repeat (with_reducible refine block_norm ?_)
    have s22_2 := ((q21 2 rfl).trans ((q19 2 rfl).trans ((q14 2 rfl).trans s6_2)))
    have s23_3 : a19.eval (.tmp 3) = .int .u64 (IntKind.u64.wrap ((2 ^ k) * 2)) := e19.2.2.1
    have s24_3 := ((q21 3 rfl).trans s23_3)
    have s25_4 : a21.eval (.tmp 4) = .int .i64 ((n + (k : Int)) + 1) := e21.2.2.1
    have x26 := (Touch.trans (Touch.trans (Touch.trans x6 (Ext.touch t14)) (Ext.touch t19)) (Ext.touch t21))
    refine then_norm ?_
    refine ⟨_, ⟨k + 1, rfl, d21, z21, s22_2, (s24_3.trans (by first | rfl | (congr 1; omega) | (rw [wrap_dbl (by omega)]))), (s25_4.trans (by first | rfl | (congr 1; omega) | (rw [wrap_dbl (by omega)]))), x26, by omega, by omega⟩, ?_⟩; (show _ < _); rw [hmu6]; exact by omega
  · have y15 := decide_eq_false c15
    have s27_7 : a14.eval (.tmp 7) = .bool (decide ((n + (k : Int)) < 32)) := e14.2.1
    refine wp_cond_false (s27_7.trans (by rw [y15])) ?_
    refine wp_exit ?_
    repeat (first | (with_reducible refine then_exit ?_) | (with_reducible refine block_here ?_) | (with_reducible refine block_past rfl ?_))
    refine hK3 _ _ ?_
    have s28_3 := ((q14 3 rfl).trans s6_3)
    refine rgs mixed 13 [.eq (.int .u64 (2 ^ k)), .eq (.int .u64 (2 ^ k))] [[(3, none)], [(12, some 0)]] d14 z14 (by kernel_rfl) ⟨Ov rfl rfl fun _ _ T ⟨k3, _⟩ => ex_move (k3.trans s28_3), Ov rfl rfl fun _ _ T ⟨k12, _⟩ => ex_assign k12, trivial⟩ ?_
    intro a29 w29 d29 z29 t29 e29 q29
    refine wp_ret ?_
    have s30_2 : a29.eval (.tmp 2) = .int .u64 (2 ^ k) := e29.2.1
    repeat (first | (with_reducible refine then_ret ?_) | (with_reducible refine block_ret ?_))
    refine retl (rs := [.tmp 2]) Try.results99 ⟨s30_2, trivial⟩ d29 ?_
    have hkk : k = (32 - n).toNat := by omega
    subst hkk
    have x31 := (Touch.trans (Touch.trans x6 (Ext.touch t14)) (Ext.touch t29))
    exact ⟨rfl, (x31).ext⟩

def rright (pa : Int) (pb : Int) : Bool := ((decide (0 ≤ pb)) && (decide (pb ≤ 32))) && (decide ((pa % (2 ^ (32 - pb).toNat)) = 0))
set_option maxRecDepth 100000 in
set_option maxHeartbeats 4000000 in
theorem c_rright (pa : Int) (pb : Int) (hpa : 0 ≤ pa ∧ pa ≤ 4294967295) (w : World) : Calls Try.prog 49 #[.agg #[.int .u32 pa, .int .i64 pb]] w fun e w' => e = .returned (.bool (rright pa pb)) ∧ Ext w w' := by
  refine enter 21 Try.ntmps49 Try.func49 rfl (Nat.le_of_ble_eq_true rfl) fun a0 d0 z0 hargs => ?_
  have s0_0 : a0.eval (.tmp 0) = .agg #[.int .u32 pa, .int .i64 pb] := hargs 0 _ rfl
  have x0 := Touch.refl NoF w
  refine wp_seq ?_
  refine seq_begin ?_
  refine sbox z0 rfl s0_0 ?_; intro b1 w1 a1 t1 g1 hb1 u1 z1
  have yb1_2 := Nat.le_trans (Touch.size x0) g1
  refine sp z1 rfl rfl (ex_assign rfl) ?_; intro a3 u3 z3
  have d4 := (u3.defs.trans (u1.defs.trans d0))
  refine seq_end ?_
  refine then_norm ?_
  have s5_1 : a1.eval (.tmp 1) = .pointer (some ⟨b1, 0, none⟩) := (u1.here _ rfl)
  have s6_1 := ((u3.past 1 rfl).trans s5_1)
  refine rgs mixed 21 [.eq (.pointer (some ⟨b1, 1, none⟩)), .eq (.int .i64 pb), .eq (.bool (decide (0 ≤ pb))), .eq (.bool (decide (0 ≤ pb))), .eq (if (decide (0 ≤ pb)) = true then .pointer (some ⟨b1, 1, none⟩) else undef), .eq (if (decide (0 ≤ pb)) = true then .int .i64 pb else undef), .eq (if (decide (0 ≤ pb)) = true then .bool (decide (pb ≤ 32)) else undef), .eq (.bool ((decide (0 ≤ pb)) && (decide (pb ≤ 32)))), .eq (.bool ((decide (0 ≤ pb)) && (decide (pb ≤ 32)))), .eq (if ((decide (0 ≤ pb)) && (decide (pb ≤ 32))) = true then .pointer (some ⟨b1, 0, none⟩) else undef), .eq (if ((decide (0 ≤ pb)) && (decide (pb ≤ 32))) = true then .int .u32 pa else undef), .eq (if ((decide (0 ≤ pb)) && (decide (pb ≤ 32))) = true then .int .u64 pa else undef), .eq (if ((decide (0 ≤ pb)) && (decide (pb ≤ 32))) = true then .pointer (some ⟨b1, 1, none⟩) else undef), .eq (if ((decide (0 ≤ pb)) && (decide (pb ≤ 32))) = true then .int .i64 pb else undef), .eq (if ((decide (0 ≤ pb)) && (decide (pb ≤ 32))) = true then .int .u64 (2 ^ (32 - pb).toNat) else undef), .eq (if ((decide (0 ≤ pb)) && (decide (pb ≤ 32))) = true then .int .u64 (pa % (2 ^ (32 - pb).toNat)) else undef), .eq (if ((decide (0 ≤ pb)) && (decide (pb ≤ 32))) = true then .bool (decide ((pa % (2 ^ (32 - pb).toNat)) = 0)) else undef), .eq (.bool (((decide (0 ≤ pb)) && (decide (pb ≤ 32))) && (decide ((pa % (2 ^ (32 - pb).toNat)) = 0)))), .eq (.bool (((decide (0 ≤ pb)) && (decide (pb ≤ 32))) && (decide ((pa % (2 ^ (32 - pb).toNat)) = 0))))] [[(1, none)], [(3, some 0)], [(4, some 1)], [(5, some 2)], [(1, none), (6, some 3)], [(7, some 4), (6, some 3)], [(8, some 5), (6, some 3)], [(6, some 3), (9, some 6)], [(10, some 7)], [(1, none), (11, some 8)], [(12, some 9), (11, some 8)], [(13, some 10), (11, some 8)], [(1, none), (11, some 8)], [(15, some 12), (11, some 8)], [(16, some 13), (11, some 8)], [(14, some 11), (17, some 14), (11, some 8)], [(18, some 15), (11, some 8)], [(11, some 8), (19, some 16)], [(20, some 17)]] d4 z3 (by kernel_rfl) ⟨Ov rfl rfl fun _ _ T ⟨k1, _⟩ => ex_fieldAddr (k1.trans s6_1) (fa_24_1 _ _ _),
    Ov rfl rfl fun _ _ T ⟨k3, _⟩ => ex_load k3 (Try.isAgg3 _) (cell_of (Ext.keep T.ext hb1) rfl),
    Ov rfl rfl fun _ _ T ⟨k4, _⟩ => ex_geq k4 rfl,
    Ov rfl rfl fun _ _ T ⟨k5, _⟩ => ex_move k5,
    Og rfl rfl rfl fun _ _ T ⟨k1, k6, _⟩ => ⟨k6, fun hcQ => ex_fieldAddr (k1.trans s6_1) (fa_24_1 _ _ _)⟩,
    Og rfl rfl rfl fun _ _ T ⟨k7, k6, _⟩ => ⟨k6, fun hcQ => ex_load (k7.trans (if_pos hcQ)) (Try.isAgg3 _) (cell_of (Ext.keep T.ext hb1) rfl)⟩,
    Og rfl rfl rfl fun _ _ T ⟨k8, k6, _⟩ => ⟨k6, fun hcQ => ex_leq (k8.trans (if_pos hcQ)) rfl⟩,
    Ov rfl rfl fun _ _ T ⟨k6, k9, _⟩ => ex_pick_and k6 k9 rfl,
    Ov rfl rfl fun _ _ T ⟨k10, _⟩ => ex_move k10,
    Og rfl rfl rfl fun _ _ T ⟨k1, k11, _⟩ => ⟨k11, fun hcQ => ex_fieldAddr (k1.trans s6_1) (fa_24_0 _ _ _)⟩,
    Og rfl rfl rfl fun _ _ T ⟨k12, k11, _⟩ => ⟨k11, fun hcQ => ex_load (k12.trans (if_pos hcQ)) (Try.isAgg22 _) (cell_of (Ext.keep T.ext hb1) rfl)⟩,
    Og rfl rfl rfl fun _ _ T ⟨k13, k11, _⟩ => ⟨k11, fun hcQ => by have hdQ := hcQ; (try simp only [Bool.and_eq_true, Bool.or_eq_false_iff, Bool.not_eq_true', Bool.not_eq_false', beq_iff_eq, decide_eq_true_eq, decide_eq_false_iff_not] at hdQ); exact ex_convert (k13.trans (if_pos hcQ)) (cvn_22_55 (by omega))⟩,
    Og rfl rfl rfl fun _ _ T ⟨k1, k11, _⟩ => ⟨k11, fun hcQ => ex_fieldAddr (k1.trans s6_1) (fa_24_1 _ _ _)⟩,
    Og rfl rfl rfl fun _ _ T ⟨k15, k11, _⟩ => ⟨k11, fun hcQ => ex_load (k15.trans (if_pos hcQ)) (Try.isAgg3 _) (cell_of (Ext.keep T.ext hb1) rfl)⟩,
    Ogc rfl rfl (fun _ _ T ⟨k16, k11, _⟩ => ⟨k11, fun hcQ => by have hdQ := hcQ; (try simp only [Bool.and_eq_true, Bool.or_eq_false_iff, Bool.not_eq_true', Bool.not_eq_false', beq_iff_eq, decide_eq_true_eq, decide_eq_false_iff_not] at hdQ); exact ⟨exl_call Try.func99 rfl rfl (cons_ops (k16.trans (if_pos hcQ)) nil_ops), c_rsize pb (by omega)⟩⟩) rfl,
    Og rfl rfl rfl fun _ _ T ⟨k14, k17, k11, _⟩ => ⟨k11, fun hcQ => by have hdQ := hcQ; (try simp only [Bool.and_eq_true, Bool.or_eq_false_iff, Bool.not_eq_true', Bool.not_eq_false', beq_iff_eq, decide_eq_true_eq, decide_eq_false_iff_not] at hdQ); exact (ex_rem (k14.trans (if_pos hcQ)) (k17.trans (if_pos hcQ)) (Int.ne_of_gt (Int.pow_pos (by decide)))).trans (by rw [Int.tmod_eq_emod_of_nonneg (by omega)])⟩,
    Og rfl rfl rfl fun _ _ T ⟨k18, k11, _⟩ => ⟨k11, fun hcQ => ex_eql (k18.trans (if_pos hcQ)) rfl⟩,
    Ov rfl rfl fun _ _ T ⟨k11, k19, _⟩ => ex_pick_and k11 k19 rfl,
    Ov rfl rfl fun _ _ T ⟨k20, _⟩ => ex_assign k20,
    trivial⟩ ?_
  intro a7 w7 d7 z7 t7 e7 q7
  refine wp_ret ?_
  have s8_2 : a7.eval (.tmp 2) = .bool (((decide (0 ≤ pb)) && (decide (pb ≤ 32))) && (decide ((pa % (2 ^ (32 - pb).toNat)) = 0))) := e7.2.2.2.2.2.2.2.2.2.2.2.2.2.2.2.2.2.2.1
  repeat (first | (with_reducible refine then_ret ?_) | (with_reducible refine block_ret ?_))
  refine retl (rs := [.tmp 2]) Try.results49 ⟨s8_2, trivial⟩ d7 ?_
  have x9 := (Touch.trans (Touch.trans x0 (Ext.touch t1)) (Ext.touch t7))
  exact ⟨by unfold rright; rfl, x9.ext⟩

def rhas (pa : Int) (pb : Int) (x : Int) : Bool := decide ((x / (2 ^ (32 - pb).toNat)) = (pa / (2 ^ (32 - pb).toNat)))
set_option maxRecDepth 100000 in
set_option maxHeartbeats 4000000 in
theorem c_rhas (pa : Int) (pb : Int) (x : Int) (hpb : 0 ≤ pb ∧ pb ≤ 32)(hpa : 0 ≤ pa ∧ pa ≤ 4294967295) (hx : 0 ≤ x ∧ x ≤ 4294967295) (w : World) : Calls Try.prog 63 #[.agg #[.int .u32 pa, .int .i64 pb], .int .u32 x] w fun e w' => e = .returned (.bool (rhas pa pb x)) ∧ Ext w w' := by
  refine enter 19 Try.ntmps63 Try.func63 rfl (Nat.le_of_ble_eq_true rfl) fun a0 d0 z0 hargs => ?_
  have s0_0 : a0.eval (.tmp 0) = .agg #[.int .u32 pa, .int .i64 pb] := hargs 0 _ rfl
  have s0_1 : a0.eval (.tmp 1) = .int .u32 x := hargs 1 _ rfl
  have x0 := Touch.refl NoF w
  refine wp_seq ?_
  refine seq_begin ?_
  refine sbox z0 rfl s0_0 ?_; intro b1 w1 a1 t1 g1 hb1 u1 z1
  have yb1_2 := Nat.le_trans (Touch.size x0) g1
  refine sp z1 rfl rfl (ex_assign rfl) ?_; intro a3 u3 z3
  have d4 := (u3.defs.trans (u1.defs.trans d0))
  refine seq_end ?_
  refine then_norm ?_
  have s5_1 := ((u3.past 1 rfl).trans ((u1.past 1 rfl).trans s0_1))
  have s6_2 : a1.eval (.tmp 2) = .pointer (some ⟨b1, 0, none⟩) := (u1.here _ rfl)
  have s7_2 := ((u3.past 2 rfl).trans s6_2)
  refine rgs mixed 19 [.eq (.int .u32 x), .eq (.int .u64 x), .eq (.pointer (some ⟨b1, 1, none⟩)), .eq (.int .i64 pb), .eq (.int .u64 (2 ^ (32 - pb).toNat)), .eq (.int .u64 (x / (2 ^ (32 - pb).toNat))), .eq (.pointer (some ⟨b1, 0, none⟩)), .eq (.int .u32 pa), .eq (.int .u64 pa), .eq (.pointer (some ⟨b1, 1, none⟩)), .eq (.int .i64 pb), .eq (.int .u64 (2 ^ (32 - pb).toNat)), .eq (.int .u64 (pa / (2 ^ (32 - pb).toNat))), .eq (.bool (decide ((x / (2 ^ (32 - pb).toNat)) = (pa / (2 ^ (32 - pb).toNat))))), .eq (.bool (decide ((x / (2 ^ (32 - pb).toNat)) = (pa / (2 ^ (32 - pb).toNat)))))] [[(1, none)], [(5, some 0)], [(2, none)], [(7, some 2)], [(8, some 3)], [(6, some 1), (9, some 4)], [(2, none)], [(11, some 6)], [(12, some 7)], [(2, none)], [(14, some 9)], [(15, some 10)], [(13, some 8), (16, some 11)], [(10, some 5), (17, some 12)], [(18, some 13)]] d4 z3 (by kernel_rfl) ⟨Ov rfl rfl fun _ _ T ⟨k1, _⟩ => ex_move (k1.trans s5_1),
    Ov rfl rfl fun _ _ T ⟨k5, _⟩ => ex_convert k5 (cvn_22_55 (by omega)),
    Ov rfl rfl fun _ _ T ⟨k2, _⟩ => ex_fieldAddr (k2.trans s7_2) (fa_24_1 _ _ _),
    Ov rfl rfl fun _ _ T ⟨k7, _⟩ => ex_load k7 (Try.isAgg3 _) (cell_of (Ext.keep T.ext hb1) rfl),
    Oc rfl (fun _ _ T ⟨k8, _⟩ => ⟨exl_call Try.func99 rfl rfl (cons_ops k8 nil_ops), c_rsize pb (by omega)⟩) rfl,
    Ov rfl rfl fun _ _ T ⟨k6, k9, _⟩ => (ex_quo k6 k9 (Int.ne_of_gt (Int.pow_pos (by decide)))).trans (by rw [Int.tdiv_eq_ediv_of_nonneg (by omega), wrap_u64 (div_u64 ⟨by omega, by omega⟩)]),
    Ov rfl rfl fun _ _ T ⟨k2, _⟩ => ex_fieldAddr (k2.trans s7_2) (fa_24_0 _ _ _),
    Ov rfl rfl fun _ _ T ⟨k11, _⟩ => ex_load k11 (Try.isAgg22 _) (cell_of (Ext.keep T.ext hb1) rfl),
    Ov rfl rfl fun _ _ T ⟨k12, _⟩ => ex_convert k12 (cvn_22_55 (by omega)),
    Ov rfl rfl fun _ _ T ⟨k2, _⟩ => ex_fieldAddr (k2.trans s7_2) (fa_24_1 _ _ _),
    Ov rfl rfl fun _ _ T ⟨k14, _⟩ => ex_load k14 (Try.isAgg3 _) (cell_of (Ext.keep T.ext hb1) rfl),
    Oc rfl (fun _ _ T ⟨k15, _⟩ => ⟨exl_call Try.func99 rfl rfl (cons_ops k15 nil_ops), c_rsize pb (by omega)⟩) rfl,
    Ov rfl rfl fun _ _ T ⟨k13, k16, _⟩ => (ex_quo k13 k16 (Int.ne_of_gt (Int.pow_pos (by decide)))).trans (by rw [Int.tdiv_eq_ediv_of_nonneg (by omega), wrap_u64 (div_u64 ⟨by omega, by omega⟩)]),
    Ov rfl rfl fun _ _ T ⟨k10, k17, _⟩ => ex_eql k10 k17,
    Ov rfl rfl fun _ _ T ⟨k18, _⟩ => ex_assign k18,
    trivial⟩ ?_
  intro a8 w8 d8 z8 t8 e8 q8
  refine wp_ret ?_
  have s9_4 : a8.eval (.tmp 4) = .bool (decide ((x / (2 ^ (32 - pb).toNat)) = (pa / (2 ^ (32 - pb).toNat)))) := e8.2.2.2.2.2.2.2.2.2.2.2.2.2.2.1
  repeat (first | (with_reducible refine then_ret ?_) | (with_reducible refine block_ret ?_))
  refine retl (rs := [.tmp 4]) Try.results63 ⟨s9_4, trivial⟩ d8 ?_
  have x10 := (Touch.trans (Touch.trans x0 (Ext.touch t1)) (Ext.touch t8))
  exact ⟨by unfold rhas; rfl, x10.ext⟩

def rcheck (fda : Int) (fdb : Int) (fsa : Int) (fsb : Int) (fp : Int) (fsl : Int) (fsh : Int) (fdl : Int) (fdh : Int) : Int := if ((!(rright fda fdb)) || (!(rright fsa fsb))) = true then 13 else if ((decide (fp < (-1))) || (decide (255 < fp))) = true then 5 else if ((decide (fsh < fsl)) || (decide (fdh < fdl))) = true then 14 else 0
set_option maxRecDepth 100000 in
set_option maxHeartbeats 4000000 in
theorem c_rcheck (fda : Int) (fdb : Int) (fsa : Int) (fsb : Int) (fp : Int) (fsl : Int) (fsh : Int) (fdl : Int) (fdh : Int) (hfda : 0 ≤ fda ∧ fda ≤ 4294967295)(hfsa : 0 ≤ fsa ∧ fsa ≤ 4294967295) (w : World) : Calls Try.prog 12 #[.agg #[.int .u32 fda, .int .i64 fdb, .int .u32 fsa, .int .i64 fsb, .int .i64 fp, .int .u16 fsl, .int .u16 fsh, .int .u16 fdl, .int .u16 fdh]] w fun e w' => e = .returned (.int .i64 (rcheck fda fdb fsa fsb fp fsl fsh fdl fdh)) ∧ Ext w w' := by
  refine enter 37 Try.ntmps12 Try.func12 rfl (Nat.le_of_ble_eq_true rfl) fun a0 d0 z0 hargs => ?_
  have s0_0 : a0.eval (.tmp 0) = .agg #[.int .u32 fda, .int .i64 fdb, .int .u32 fsa, .int .i64 fsb, .int .i64 fp, .int .u16 fsl, .int .u16 fsh, .int .u16 fdl, .int .u16 fdh] := hargs 0 _ rfl
  have x0 := Touch.refl NoF w
  refine wp_seq ?_
  refine seq_begin ?_
  refine sbox z0 rfl s0_0 ?_; intro b1 w1 a1 t1 g1 hb1 u1 z1
  have yb1_2 := Nat.le_trans (Touch.size x0) g1
  refine sp z1 rfl rfl (ex_assign rfl) ?_; intro a3 u3 z3
  have d4 := (u3.defs.trans (u1.defs.trans d0))
  refine seq_end ?_
  refine then_norm ?_
  refine wp_seq_k fun K5 hK5 => ?_
  refine wp_seq ?_
  refine seq_begin ?_
  refine sp z3 rfl rfl (ex_fieldAddr ((u3.past 1 rfl).trans (u1.here _ rfl)) (fa_29_0 _ _ _)) ?_; intro a6 u6 z6
  refine sp z6 rfl rfl (ex_loadAgg (cs := [.int .u32 fda, .int .i64 fdb]) (u6.here _ rfl) (Try.isAgg24 _) (Try.sizeOf24 _) (cells_of (off := 0) hb1 rfl)) ?_; intro a7 u7 z7
  refine scx z7 rfl rfl (exl_call Try.func49 rfl rfl (cons_ops (u7.here _ rfl) nil_ops)) (c_rright fda fdb (by omega) _) ?_; intro w8 a8 t8 u8 z8
  refine sp z8 rfl rfl (ex_not (u8.here _ rfl)) ?_; intro a9 u9 z9
  refine sp z9 rfl rfl (ex_move (u9.here _ rfl)) ?_; intro a10 u10 z10
  refine sg z10 rfl rfl rfl (u10.here _ rfl) (fun hcQ => ex_fieldAddr ((u10.past 1 rfl).trans ((u9.past 1 rfl).trans ((u8.past 1 rfl).trans ((u7.past 1 rfl).trans ((u6.past 1 rfl).trans ((u3.past 1 rfl).trans (u1.here _ rfl))))))) (fa_29_1 _ _ _)) ?_; intro a11 u11 z11
  have hb1_13 := (Ext.keep t8 hb1)
  refine sg z11 rfl rfl rfl ((u11.past 7 rfl).trans (u10.here _ rfl)) (fun hcQ => ex_loadAgg (cs := [.int .u32 fsa, .int .i64 fsb]) ((u11.here _ rfl).trans (if_pos hcQ)) (Try.isAgg24 _) (Try.sizeOf24 _) (cells_of (off := 2) hb1_13 rfl)) ?_; intro a12 u12 z12
  refine scg z12 rfl rfl rfl ((u12.past 7 rfl).trans ((u11.past 7 rfl).trans (u10.here _ rfl))) (fun hcQ => exl_call Try.func49 rfl rfl (cons_ops ((u12.here _ rfl).trans (if_pos hcQ)) nil_ops)) (fun hcQ => by (try simp only [Bool.and_eq_true, Bool.or_eq_false_iff, Bool.not_eq_true', Bool.not_eq_false', beq_iff_eq, decide_eq_true_eq, decide_eq_false_iff_not] at hcQ); exact c_rright fsa fsb (by omega) _) ?_; intro w14 a14 t14 u14 z14
  refine sg z14 rfl rfl rfl ((u14.past 7 rfl).trans ((u12.past 7 rfl).trans ((u11.past 7 rfl).trans (u10.here _ rfl)))) (fun hcQ => ex_not ((u14.here _ rfl).trans (if_pos hcQ))) ?_; intro a15 u15 z15
  refine sp z15 rfl rfl (ex_pick_or ((u15.past 7 rfl).trans ((u14.past 7 rfl).trans ((u12.past 7 rfl).trans ((u11.past 7 rfl).trans (u10.here _ rfl))))) rfl (u15.here _ rfl)) ?_; intro a16 u16 z16
  have d17 := (u16.defs.trans (u15.defs.trans (u14.defs.trans (u12.defs.trans (u11.defs.trans (u10.defs.trans (u9.defs.trans (u8.defs.trans (u7.defs.trans (u6.defs.trans d4))))))))))
  refine seq_end ?_
  refine then_norm ?_
  rcases Bool.eq_false_or_eq_true ((!(rright fda fdb)) || (!(rright fsa fsb))) with y18 | y18
  · have c18 := y18
    have s19_12 : a16.eval (.tmp 12) = .bool ((!(rright fda fdb)) || (!(rright fsa fsb))) := (u16.here _ rfl)
    refine wp_cond_true (s19_12.trans (by rw [y18])) ?_
    refine rgs mixed 37 [.eq (.int .i64 13)] [[]] d17 z16 (by kernel_rfl) ⟨Ov rfl rfl fun _ _ T _ => ex_assign rfl, trivial⟩ ?_
    intro a20 w20 d20 z20 t20 e20 q20
    refine wp_ret ?_
    have s21_2 : a20.eval (.tmp 2) = .int .i64 13 := e20.1
    repeat (first | (with_reducible refine then_ret ?_) | (with_reducible refine block_ret ?_))
    refine retl (rs := [.tmp 2]) Try.results12 ⟨s21_2, trivial⟩ d20 ?_
    have x22 := (Touch.trans (Touch.trans (Touch.trans (Touch.trans x0 (Ext.touch t1)) (Ext.touch t8)) (Ext.touch t14)) (Ext.touch t20))
    exact ⟨by unfold rcheck; rw [if_pos y18], x22.ext⟩
  · have c18 := y18
    have s23_12 : a16.eval (.tmp 12) = .bool ((!(rright fda fdb)) || (!(rright fsa fsb))) := (u16.here _ rfl)
    refine wp_cond_false (s23_12.trans (by rw [y18])) ?_
    refine wp_skip ?_
    repeat (with_reducible refine block_norm ?_)
    refine hK5 _ _ ?_
    refine wp_seq_k fun K24 hK24 => ?_
    have s25_1 : a1.eval (.tmp 1) = .pointer (some ⟨b1, 0, none⟩) := (u1.here _ rfl)
    have s26_1 := ((u16.past 1 rfl).trans ((u15.past 1 rfl).trans ((u14.past 1 rfl).trans ((u12.past 1 rfl).trans ((u11.past 1 rfl).trans ((u10.past 1 rfl).trans ((u9.past 1 rfl).trans ((u8.past 1 rfl).trans ((u7.past 1 rfl).trans ((u6.past 1 rfl).trans ((u3.past 1 rfl).trans s25_1)))))))))))
    have hb1_27 := (Ext.keep t14 hb1_13)
    refine rgs mixed 37 [.eq (.pointer (some ⟨b1, 4, none⟩)), .eq (.int .i64 fp), .eq (.bool (decide (fp < (-1)))), .eq (.bool (decide (fp < (-1)))), .eq (if (decide (fp < (-1))) = false then .pointer (some ⟨b1, 4, none⟩) else undef), .eq (if (decide (fp < (-1))) = false then .int .i64 fp else undef), .eq (if (decide (fp < (-1))) = false then .bool (decide (255 < fp)) else undef), .eq (.bool ((decide (fp < (-1))) || (decide (255 < fp))))] [[(1, none)], [(13, some 0)], [(14, some 1)], [(15, some 2)], [(1, none), (16, some 3)], [(17, some 4), (16, some 3)], [(18, some 5), (16, some 3)], [(16, some 3), (19, some 6)]] d17 z16 (by kernel_rfl) ⟨Ov rfl rfl fun _ _ T ⟨k1, _⟩ => ex_fieldAddr (k1.trans s26_1) (fa_29_2 _ _ _),
      Ov rfl rfl fun _ _ T ⟨k13, _⟩ => ex_load k13 (Try.isAgg3 _) (cell_of (Ext.keep T.ext hb1_27) rfl),
      Ov rfl rfl fun _ _ T ⟨k14, _⟩ => ex_lss k14 rfl,
      Ov rfl rfl fun _ _ T ⟨k15, _⟩ => ex_move k15,
      Og rfl rfl rfl fun _ _ T ⟨k1, k16, _⟩ => ⟨k16, fun hcQ => ex_fieldAddr (k1.trans s26_1) (fa_29_2 _ _ _)⟩,
      Og rfl rfl rfl fun _ _ T ⟨k17, k16, _⟩ => ⟨k16, fun hcQ => ex_load (k17.trans (if_pos hcQ)) (Try.isAgg3 _) (cell_of (Ext.keep T.ext hb1_27) rfl)⟩,
      Og rfl rfl rfl fun _ _ T ⟨k18, k16, _⟩ => ⟨k16, fun hcQ => ex_gtr (k18.trans (if_pos hcQ)) rfl⟩,
      Ov rfl rfl fun _ _ T ⟨k16, k19, _⟩ => ex_pick_or k16 rfl k19,
      trivial⟩ ?_
    intro a28 w28 d28 z28 t28 e28 q28
    rcases Bool.eq_false_or_eq_true ((decide (fp < (-1))) || (decide (255 < fp))) with y29 | y29
    · have c29 := y29; try simp only [Bool.and_eq_true, Bool.or_eq_true, Bool.and_eq_false_iff, Bool.or_eq_false_iff, Bool.not_eq_true', Bool.not_eq_false', decide_eq_true_eq, decide_eq_false_iff_not] at c29
      have s30_20 : a28.eval (.tmp 20) = .bool ((decide (fp < (-1))) || (decide (255 < fp))) := e28.2.2.2.2.2.2.2.1
      refine wp_cond_true (s30_20.trans (by rw [y29])) ?_
      refine rgs mixed 37 [.eq (.int .i64 5)] [[]] d28 z28 (by kernel_rfl) ⟨Ov rfl rfl fun _ _ T _ => ex_assign rfl, trivial⟩ ?_
      intro a31 w31 d31 z31 t31 e31 q31
      refine wp_ret ?_
      have s32_2 : a31.eval (.tmp 2) = .int .i64 5 := e31.1
      repeat (first | (with_reducible refine then_ret ?_) | (with_reducible refine block_ret ?_))
      refine retl (rs := [.tmp 2]) Try.results12 ⟨s32_2, trivial⟩ d31 ?_
      have x33 := (Touch.trans (Touch.trans (Touch.trans (Touch.trans (Touch.trans x0 (Ext.touch t1)) (Ext.touch t8)) (Ext.touch t14)) (Ext.touch t28)) (Ext.touch t31))
      exact ⟨by unfold rcheck; rw [if_neg (by rw [y18]; decide), if_pos y29], x33.ext⟩
    · have c29 := y29; try simp only [Bool.and_eq_true, Bool.or_eq_true, Bool.and_eq_false_iff, Bool.or_eq_false_iff, Bool.not_eq_true', Bool.not_eq_false', decide_eq_true_eq, decide_eq_false_iff_not] at c29
      have s34_20 : a28.eval (.tmp 20) = .bool ((decide (fp < (-1))) || (decide (255 < fp))) := e28.2.2.2.2.2.2.2.1
      refine wp_cond_false (s34_20.trans (by rw [y29])) ?_
      refine wp_skip ?_
      repeat (with_reducible refine block_norm ?_)
      refine hK24 _ _ ?_
      refine wp_seq_k fun K35 hK35 => ?_
      have s36_1 := ((q28 1 rfl).trans s26_1)
      have hb1_37 := (Ext.keep t28 hb1_27)
      refine rgs mixed 37 [.eq (.pointer (some ⟨b1, 5, none⟩)), .eq (.pointer (some ⟨b1, 5, none⟩)), .eq (.int .u16 fsl), .eq (.pointer (some ⟨b1, 5, none⟩)), .eq (.pointer (some ⟨b1, 6, none⟩)), .eq (.int .u16 fsh), .eq (.bool (decide (fsh < fsl))), .eq (.bool (decide (fsh < fsl))), .eq (if (decide (fsh < fsl)) = false then .pointer (some ⟨b1, 7, none⟩) else undef), .eq (if (decide (fsh < fsl)) = false then .pointer (some ⟨b1, 7, none⟩) else undef), .eq (if (decide (fsh < fsl)) = false then .int .u16 fdl else undef), .eq (if (decide (fsh < fsl)) = false then .pointer (some ⟨b1, 7, none⟩) else undef), .eq (if (decide (fsh < fsl)) = false then .pointer (some ⟨b1, 8, none⟩) else undef), .eq (if (decide (fsh < fsl)) = false then .int .u16 fdh else undef), .eq (if (decide (fsh < fsl)) = false then .bool (decide (fdh < fdl)) else undef), .eq (.bool ((decide (fsh < fsl)) || (decide (fdh < fdl))))] [[(1, none)], [(21, some 0)], [(22, some 1)], [(1, none)], [(24, some 3)], [(25, some 4)], [(23, some 2), (26, some 5)], [(27, some 6)], [(1, none), (28, some 7)], [(29, some 8), (28, some 7)], [(30, some 9), (28, some 7)], [(1, none), (28, some 7)], [(32, some 11), (28, some 7)], [(33, some 12), (28, some 7)], [(31, some 10), (34, some 13), (28, some 7)], [(28, some 7), (35, some 14)]] d28 z28 (by kernel_rfl) ⟨Ov rfl rfl fun _ _ T ⟨k1, _⟩ => ex_fieldAddr (k1.trans s36_1) (fa_29_3 _ _ _),
        Ov rfl rfl fun _ _ T ⟨k21, _⟩ => ex_fieldAddr k21 (fa_27_0 _ _ _),
        Ov rfl rfl fun _ _ T ⟨k22, _⟩ => ex_load k22 (Try.isAgg25 _) (cell_of (Ext.keep T.ext hb1_37) rfl),
        Ov rfl rfl fun _ _ T ⟨k1, _⟩ => ex_fieldAddr (k1.trans s36_1) (fa_29_3 _ _ _),
        Ov rfl rfl fun _ _ T ⟨k24, _⟩ => ex_fieldAddr k24 (fa_27_1 _ _ _),
        Ov rfl rfl fun _ _ T ⟨k25, _⟩ => ex_load k25 (Try.isAgg25 _) (cell_of (Ext.keep T.ext hb1_37) rfl),
        Ov rfl rfl fun _ _ T ⟨k23, k26, _⟩ => ex_gtr k23 k26,
        Ov rfl rfl fun _ _ T ⟨k27, _⟩ => ex_move k27,
        Og rfl rfl rfl fun _ _ T ⟨k1, k28, _⟩ => ⟨k28, fun hcQ => ex_fieldAddr (k1.trans s36_1) (fa_29_4 _ _ _)⟩,
        Og rfl rfl rfl fun _ _ T ⟨k29, k28, _⟩ => ⟨k28, fun hcQ => ex_fieldAddr (k29.trans (if_pos hcQ)) (fa_27_0 _ _ _)⟩,
        Og rfl rfl rfl fun _ _ T ⟨k30, k28, _⟩ => ⟨k28, fun hcQ => ex_load (k30.trans (if_pos hcQ)) (Try.isAgg25 _) (cell_of (Ext.keep T.ext hb1_37) rfl)⟩,
        Og rfl rfl rfl fun _ _ T ⟨k1, k28, _⟩ => ⟨k28, fun hcQ => ex_fieldAddr (k1.trans s36_1) (fa_29_4 _ _ _)⟩,
        Og rfl rfl rfl fun _ _ T ⟨k32, k28, _⟩ => ⟨k28, fun hcQ => ex_fieldAddr (k32.trans (if_pos hcQ)) (fa_27_1 _ _ _)⟩,
        Og rfl rfl rfl fun _ _ T ⟨k33, k28, _⟩ => ⟨k28, fun hcQ => ex_load (k33.trans (if_pos hcQ)) (Try.isAgg25 _) (cell_of (Ext.keep T.ext hb1_37) rfl)⟩,
        Og rfl rfl rfl fun _ _ T ⟨k31, k34, k28, _⟩ => ⟨k28, fun hcQ => ex_gtr (k31.trans (if_pos hcQ)) (k34.trans (if_pos hcQ))⟩,
        Ov rfl rfl fun _ _ T ⟨k28, k35, _⟩ => ex_pick_or k28 rfl k35,
        trivial⟩ ?_
      intro a38 w38 d38 z38 t38 e38 q38
      rcases Bool.eq_false_or_eq_true ((decide (fsh < fsl)) || (decide (fdh < fdl))) with y39 | y39
      · have c39 := y39; try simp only [Bool.and_eq_true, Bool.or_eq_true, Bool.and_eq_false_iff, Bool.or_eq_false_iff, Bool.not_eq_true', Bool.not_eq_false', decide_eq_true_eq, decide_eq_false_iff_not] at c39
        have s40_36 : a38.eval (.tmp 36) = .bool ((decide (fsh < fsl)) || (decide (fdh < fdl))) := e38.2.2.2.2.2.2.2.2.2.2.2.2.2.2.2.1
        refine wp_cond_true (s40_36.trans (by rw [y39])) ?_
        refine rgs mixed 37 [.eq (.int .i64 14)] [[]] d38 z38 (by kernel_rfl) ⟨Ov rfl rfl fun _ _ T _ => ex_assign rfl, trivial⟩ ?_
        intro a41 w41 d41 z41 t41 e41 q41
        refine wp_ret ?_
        have s42_2 : a41.eval (.tmp 2) = .int .i64 14 := e41.1
        repeat (first | (with_reducible refine then_ret ?_) | (with_reducible refine block_ret ?_))
        refine retl (rs := [.tmp 2]) Try.results12 ⟨s42_2, trivial⟩ d41 ?_
        have x43 := (Touch.trans (Touch.trans (Touch.trans (Touch.trans (Touch.trans (Touch.trans x0 (Ext.touch t1)) (Ext.touch t8)) (Ext.touch t14)) (Ext.touch t28)) (Ext.touch t38)) (Ext.touch t41))
        exact ⟨by unfold rcheck; rw [if_neg (by rw [y18]; decide), if_neg (by rw [y29]; decide), if_pos y39], x43.ext⟩
      · have c39 := y39; try simp only [Bool.and_eq_true, Bool.or_eq_true, Bool.and_eq_false_iff, Bool.or_eq_false_iff, Bool.not_eq_true', Bool.not_eq_false', decide_eq_true_eq, decide_eq_false_iff_not] at c39
        have s44_36 : a38.eval (.tmp 36) = .bool ((decide (fsh < fsl)) || (decide (fdh < fdl))) := e38.2.2.2.2.2.2.2.2.2.2.2.2.2.2.2.1
        refine wp_cond_false (s44_36.trans (by rw [y39])) ?_
        refine wp_skip ?_
        repeat (with_reducible refine block_norm ?_)
        refine hK35 _ _ ?_
        refine rgs mixed 37 [.eq (.int .i64 0)] [[]] d38 z38 (by kernel_rfl) ⟨Ov rfl rfl fun _ _ T _ => ex_assign rfl, trivial⟩ ?_
        intro a45 w45 d45 z45 t45 e45 q45
        refine wp_ret ?_
        have s46_2 : a45.eval (.tmp 2) = .int .i64 0 := e45.1
        repeat (first | (with_reducible refine then_ret ?_) | (with_reducible refine block_ret ?_))
        refine retl (rs := [.tmp 2]) Try.results12 ⟨s46_2, trivial⟩ d45 ?_
        have x47 := (Touch.trans (Touch.trans (Touch.trans (Touch.trans (Touch.trans (Touch.trans x0 (Ext.touch t1)) (Ext.touch t8)) (Ext.touch t14)) (Ext.touch t28)) (Ext.touch t38)) (Ext.touch t45))
        exact ⟨by unfold rcheck; rw [if_neg (by rw [y18]; decide), if_neg (by rw [y29]; decide), if_neg (by rw [y39]; decide)], x47.ext⟩

def rmatch (fda : Int) (fdb : Int) (fsa : Int) (fsb : Int) (fp : Int) (fsl : Int) (fsh : Int) (fdl : Int) (fdh : Int) (hd : Int) (hs : Int) (hp : Int) (hsp : Int) (hdp : Int) : Bool := if ((decide (fp ≠ (-1))) && (decide (fp ≠ hp))) = true then false else if ((((decide (hsp < fsl)) || (decide (fsh < hsp))) || (decide (hdp < fdl))) || (decide (fdh < hdp))) = true then false else (rhas fda fdb hd) && (rhas fsa fsb hs)
set_option maxRecDepth 100000 in
set_option maxHeartbeats 4000000 in
theorem c_rmatch (fda : Int) (fdb : Int) (fsa : Int) (fsb : Int) (fp : Int) (fsl : Int) (fsh : Int) (fdl : Int) (fdh : Int) (hd : Int) (hs : Int) (hp : Int) (hsp : Int) (hdp : Int) (hfdb : 0 ≤ fdb ∧ fdb ≤ 32)(hfsb : 0 ≤ fsb ∧ fsb ≤ 32)(hfda : 0 ≤ fda ∧ fda ≤ 4294967295)(hfsa : 0 ≤ fsa ∧ fsa ≤ 4294967295)(hhd : 0 ≤ hd ∧ hd ≤ 4294967295)(hhs : 0 ≤ hs ∧ hs ≤ 4294967295)(hhp : 0 ≤ hp ∧ hp ≤ 255) (w : World) : Calls Try.prog 19 #[.agg #[.int .u32 fda, .int .i64 fdb, .int .u32 fsa, .int .i64 fsb, .int .i64 fp, .int .u16 fsl, .int .u16 fsh, .int .u16 fdl, .int .u16 fdh], .agg #[.int .u32 hd, .int .u32 hs, .int .u8 hp, .int .u16 hsp, .int .u16 hdp]] w fun e w' => e = .returned (.bool (rmatch fda fdb fsa fsb fp fsl fsh fdl fdh hd hs hp hsp hdp)) ∧ Ext w w' := by
  refine enter 58 Try.ntmps19 Try.func19 rfl (Nat.le_of_ble_eq_true rfl) fun a0 d0 z0 hargs => ?_
  have s0_0 : a0.eval (.tmp 0) = .agg #[.int .u32 fda, .int .i64 fdb, .int .u32 fsa, .int .i64 fsb, .int .i64 fp, .int .u16 fsl, .int .u16 fsh, .int .u16 fdl, .int .u16 fdh] := hargs 0 _ rfl
  have s0_1 : a0.eval (.tmp 1) = .agg #[.int .u32 hd, .int .u32 hs, .int .u8 hp, .int .u16 hsp, .int .u16 hdp] := hargs 1 _ rfl
  have x0 := Touch.refl NoF w
  refine wp_seq ?_
  refine seq_begin ?_
  refine sbox z0 rfl s0_0 ?_; intro b1 w1 a1 t1 g1 hb1 u1 z1
  have yb1_2 := Nat.le_trans (Touch.size x0) g1
  refine sbox z1 rfl ((u1.past 1 rfl).trans s0_1) ?_; intro b3 w3 a3 t3 g3 hb3 u3 z3
  have n4_b1_b3 := ne_lt (lt_of hb1) g3
  have x6 := (Touch.trans x0 (Ext.touch t1))
  have yb3_5 := Nat.le_trans (Touch.size x6) g3
  refine sp z3 rfl rfl (ex_assign rfl) ?_; intro a7 u7 z7
  have d8 := (u7.defs.trans (u3.defs.trans (u1.defs.trans d0)))
  refine seq_end ?_
  refine then_norm ?_
  refine wp_seq_k fun K9 hK9 => ?_
  have s10_2 : a1.eval (.tmp 2) = .pointer (some ⟨b1, 0, none⟩) := (u1.here _ rfl)
  have s11_2 := ((u7.past 2 rfl).trans ((u3.past 2 rfl).trans s10_2))
  have hb1_12 := (Ext.keep t3 hb1)
  have s13_3 : a3.eval (.tmp 3) = .pointer (some ⟨b3, 0, none⟩) := (u3.here _ rfl)
  have s14_3 := ((u7.past 3 rfl).trans s13_3)
  refine rgs mixed 58 [.eq (.pointer (some ⟨b1, 4, none⟩)), .eq (.int .i64 fp), .eq (.bool (decide (fp ≠ (-1)))), .eq (.bool (decide (fp ≠ (-1)))), .eq (if (decide (fp ≠ (-1))) = true then .pointer (some ⟨b1, 4, none⟩) else undef), .eq (if (decide (fp ≠ (-1))) = true then .int .i64 fp else undef), .eq (if (decide (fp ≠ (-1))) = true then .pointer (some ⟨b3, 2, none⟩) else undef), .eq (if (decide (fp ≠ (-1))) = true then .int .u8 hp else undef), .eq (if (decide (fp ≠ (-1))) = true then .int .i64 hp else undef), .eq (if (decide (fp ≠ (-1))) = true then .bool (decide (fp ≠ hp)) else undef), .eq (.bool ((decide (fp ≠ (-1))) && (decide (fp ≠ hp))))] [[(2, none)], [(5, some 0)], [(6, some 1)], [(7, some 2)], [(2, none), (8, some 3)], [(9, some 4), (8, some 3)], [(3, none), (8, some 3)], [(11, some 6), (8, some 3)], [(12, some 7), (8, some 3)], [(10, some 5), (13, some 8), (8, some 3)], [(8, some 3), (14, some 9)]] d8 z7 (by kernel_rfl) ⟨Ov rfl rfl fun _ _ T ⟨k2, _⟩ => ex_fieldAddr (k2.trans s11_2) (fa_29_2 _ _ _),
    Ov rfl rfl fun _ _ T ⟨k5, _⟩ => ex_load k5 (Try.isAgg3 _) (cell_of (Ext.keep T.ext hb1_12) rfl),
    Ov rfl rfl fun _ _ T ⟨k6, _⟩ => ex_neq k6 rfl,
    Ov rfl rfl fun _ _ T ⟨k7, _⟩ => ex_move k7,
    Og rfl rfl rfl fun _ _ T ⟨k2, k8, _⟩ => ⟨k8, fun hcQ => ex_fieldAddr (k2.trans s11_2) (fa_29_2 _ _ _)⟩,
    Og rfl rfl rfl fun _ _ T ⟨k9, k8, _⟩ => ⟨k8, fun hcQ => ex_load (k9.trans (if_pos hcQ)) (Try.isAgg3 _) (cell_of (Ext.keep T.ext hb1_12) rfl)⟩,
    Og rfl rfl rfl fun _ _ T ⟨k3, k8, _⟩ => ⟨k8, fun hcQ => ex_fieldAddr (k3.trans s14_3) (fa_31_2 _ _ _)⟩,
    Og rfl rfl rfl fun _ _ T ⟨k11, k8, _⟩ => ⟨k8, fun hcQ => ex_load (k11.trans (if_pos hcQ)) (Try.isAgg5 _) (cell_of (Ext.keep T.ext hb3) rfl)⟩,
    Og rfl rfl rfl fun _ _ T ⟨k12, k8, _⟩ => ⟨k8, fun hcQ => by have hdQ := hcQ; (try simp only [Bool.and_eq_true, Bool.or_eq_false_iff, Bool.not_eq_true', Bool.not_eq_false', beq_iff_eq, decide_eq_true_eq, decide_eq_false_iff_not] at hdQ); exact ex_convert (k12.trans (if_pos hcQ)) (cvn_5_3 (by omega))⟩,
    Og rfl rfl rfl fun _ _ T ⟨k10, k13, k8, _⟩ => ⟨k8, fun hcQ => ex_neq (k10.trans (if_pos hcQ)) (k13.trans (if_pos hcQ))⟩,
    Ov rfl rfl fun _ _ T ⟨k8, k14, _⟩ => ex_pick_and k8 k14 rfl,
    trivial⟩ ?_
  intro a15 w15 d15 z15 t15 e15 q15
  rcases Bool.eq_false_or_eq_true ((decide (fp ≠ (-1))) && (decide (fp ≠ hp))) with y16 | y16
  · have c16 := y16; try simp only [Bool.and_eq_true, Bool.or_eq_true, Bool.and_eq_false_iff, Bool.or_eq_false_iff, Bool.not_eq_true', Bool.not_eq_false', decide_eq_true_eq, decide_eq_false_iff_not] at c16
    have s17_15 : a15.eval (.tmp 15) = .bool ((decide (fp ≠ (-1))) && (decide (fp ≠ hp))) := e15.2.2.2.2.2.2.2.2.2.2.1
    refine wp_cond_true (s17_15.trans (by rw [y16])) ?_
    refine rgs mixed 58 [.eq (.bool false)] [[]] d15 z15 (by kernel_rfl) ⟨Ov rfl rfl fun _ _ T _ => ex_assign rfl, trivial⟩ ?_
    intro a18 w18 d18 z18 t18 e18 q18
    refine wp_ret ?_
    have s19_4 : a18.eval (.tmp 4) = .bool false := e18.1
    repeat (first | (with_reducible refine then_ret ?_) | (with_reducible refine block_ret ?_))
    refine retl (rs := [.tmp 4]) Try.results19 ⟨s19_4, trivial⟩ d18 ?_
    have x20 := (Touch.trans (Touch.trans (Touch.trans x6 (Ext.touch t3)) (Ext.touch t15)) (Ext.touch t18))
    exact ⟨by unfold rmatch; rw [if_pos y16], x20.ext⟩
  · have c16 := y16; try simp only [Bool.and_eq_true, Bool.or_eq_true, Bool.and_eq_false_iff, Bool.or_eq_false_iff, Bool.not_eq_true', Bool.not_eq_false', decide_eq_true_eq, decide_eq_false_iff_not] at c16
    have s21_15 : a15.eval (.tmp 15) = .bool ((decide (fp ≠ (-1))) && (decide (fp ≠ hp))) := e15.2.2.2.2.2.2.2.2.2.2.1
    refine wp_cond_false (s21_15.trans (by rw [y16])) ?_
    refine wp_skip ?_
    repeat (with_reducible refine block_norm ?_)
    refine hK9 _ _ ?_
    refine wp_seq_k fun K22 hK22 => ?_
    have s23_3 := ((q15 3 rfl).trans s14_3)
    have hb3_24 := (Ext.keep t15 hb3)
    have s25_2 := ((q15 2 rfl).trans s11_2)
    have hb1_26 := (Ext.keep t15 hb1_12)
    refine rgs mixed 58 [.eq (.pointer (some ⟨b3, 3, none⟩)), .eq (.int .u16 hsp), .eq (.pointer (some ⟨b1, 5, none⟩)), .eq (.pointer (some ⟨b1, 5, none⟩)), .eq (.int .u16 fsl), .eq (.bool (decide (hsp < fsl))), .eq (.bool (decide (hsp < fsl))), .eq (if (decide (hsp < fsl)) = false then .pointer (some ⟨b3, 3, none⟩) else undef), .eq (if (decide (hsp < fsl)) = false then .int .u16 hsp else undef), .eq (if (decide (hsp < fsl)) = false then .pointer (some ⟨b1, 5, none⟩) else undef), .eq (if (decide (hsp < fsl)) = false then .pointer (some ⟨b1, 6, none⟩) else undef), .eq (if (decide (hsp < fsl)) = false then .int .u16 fsh else undef), .eq (if (decide (hsp < fsl)) = false then .bool (decide (fsh < hsp)) else undef), .eq (.bool ((decide (hsp < fsl)) || (decide (fsh < hsp)))), .eq (.bool ((decide (hsp < fsl)) || (decide (fsh < hsp)))), .eq (if ((decide (hsp < fsl)) || (decide (fsh < hsp))) = false then .pointer (some ⟨b3, 4, none⟩) else undef), .eq (if ((decide (hsp < fsl)) || (decide (fsh < hsp))) = false then .int .u16 hdp else undef), .eq (if ((decide (hsp < fsl)) || (decide (fsh < hsp))) = false then .pointer (some ⟨b1, 7, none⟩) else undef), .eq (if ((decide (hsp < fsl)) || (decide (fsh < hsp))) = false then .pointer (some ⟨b1, 7, none⟩) else undef), .eq (if ((decide (hsp < fsl)) || (decide (fsh < hsp))) = false then .int .u16 fdl else undef), .eq (if ((decide (hsp < fsl)) || (decide (fsh < hsp))) = false then .bool (decide (hdp < fdl)) else undef), .eq (.bool (((decide (hsp < fsl)) || (decide (fsh < hsp))) || (decide (hdp < fdl)))), .eq (.bool (((decide (hsp < fsl)) || (decide (fsh < hsp))) || (decide (hdp < fdl)))), .eq (if (((decide (hsp < fsl)) || (decide (fsh < hsp))) || (decide (hdp < fdl))) = false then .pointer (some ⟨b3, 4, none⟩) else undef), .eq (if (((decide (hsp < fsl)) || (decide (fsh < hsp))) || (decide (hdp < fdl))) = false then .int .u16 hdp else undef), .eq (if (((decide (hsp < fsl)) || (decide (fsh < hsp))) || (decide (hdp < fdl))) = false then .pointer (some ⟨b1, 7, none⟩) else undef), .eq (if (((decide (hsp < fsl)) || (decide (fsh < hsp))) || (decide (hdp < fdl))) = false then .pointer (some ⟨b1, 8, none⟩) else undef), .eq (if (((decide (hsp < fsl)) || (decide (fsh < hsp))) || (decide (hdp < fdl))) = false then .int .u16 fdh else undef), .eq (if (((decide (hsp < fsl)) || (decide (fsh < hsp))) || (decide (hdp < fdl))) = false then .bool (decide (fdh < hdp)) else undef), .eq (.bool ((((decide (hsp < fsl)) || (decide (fsh < hsp))) || (decide (hdp < fdl))) || (decide (fdh < hdp))))] [[(3, none)], [(16, some 0)], [(2, none)], [(18, some 2)], [(19, some 3)], [(17, some 1), (20, some 4)], [(21, some 5)], [(3, none), (22, some 6)], [(23, some 7), (22, some 6)], [(2, none), (22, some 6)], [(25, some 9), (22, some 6)], [(26, some 10), (22, some 6)], [(24, some 8), (27, some 11), (22, some 6)], [(22, some 6), (28, some 12)], [(29, some 13)], [(3, none), (30, some 14)], [(31, some 15), (30, some 14)], [(2, none), (30, some 14)], [(33, some 17), (30, some 14)], [(34, some 18), (30, some 14)], [(32, some 16), (35, some 19), (30, some 14)], [(30, some 14), (36, some 20)], [(37, some 21)], [(3, none), (38, some 22)], [(39, some 23), (38, some 22)], [(2, none), (38, some 22)], [(41, some 25), (38, some 22)], [(42, some 26), (38, some 22)], [(40, some 24), (43, some 27), (38, some 22)], [(38, some 22), (44, some 28)]] d15 z15 (by kernel_rfl) ⟨Ov rfl rfl fun _ _ T ⟨k3, _⟩ => ex_fieldAddr (k3.trans s23_3) (fa_31_3 _ _ _),
      Ov rfl rfl fun _ _ T ⟨k16, _⟩ => ex_load k16 (Try.isAgg25 _) (cell_of (Ext.keep T.ext hb3_24) rfl),
      Ov rfl rfl fun _ _ T ⟨k2, _⟩ => ex_fieldAddr (k2.trans s25_2) (fa_29_3 _ _ _),
      Ov rfl rfl fun _ _ T ⟨k18, _⟩ => ex_fieldAddr k18 (fa_27_0 _ _ _),
      Ov rfl rfl fun _ _ T ⟨k19, _⟩ => ex_load k19 (Try.isAgg25 _) (cell_of (Ext.keep T.ext hb1_26) rfl),
      Ov rfl rfl fun _ _ T ⟨k17, k20, _⟩ => ex_lss k17 k20,
      Ov rfl rfl fun _ _ T ⟨k21, _⟩ => ex_move k21,
      Og rfl rfl rfl fun _ _ T ⟨k3, k22, _⟩ => ⟨k22, fun hcQ => ex_fieldAddr (k3.trans s23_3) (fa_31_3 _ _ _)⟩,
      Og rfl rfl rfl fun _ _ T ⟨k23, k22, _⟩ => ⟨k22, fun hcQ => ex_load (k23.trans (if_pos hcQ)) (Try.isAgg25 _) (cell_of (Ext.keep T.ext hb3_24) rfl)⟩,
      Og rfl rfl rfl fun _ _ T ⟨k2, k22, _⟩ => ⟨k22, fun hcQ => ex_fieldAddr (k2.trans s25_2) (fa_29_3 _ _ _)⟩,
      Og rfl rfl rfl fun _ _ T ⟨k25, k22, _⟩ => ⟨k22, fun hcQ => ex_fieldAddr (k25.trans (if_pos hcQ)) (fa_27_1 _ _ _)⟩,
      Og rfl rfl rfl fun _ _ T ⟨k26, k22, _⟩ => ⟨k22, fun hcQ => ex_load (k26.trans (if_pos hcQ)) (Try.isAgg25 _) (cell_of (Ext.keep T.ext hb1_26) rfl)⟩,
      Og rfl rfl rfl fun _ _ T ⟨k24, k27, k22, _⟩ => ⟨k22, fun hcQ => ex_gtr (k24.trans (if_pos hcQ)) (k27.trans (if_pos hcQ))⟩,
      Ov rfl rfl fun _ _ T ⟨k22, k28, _⟩ => ex_pick_or k22 rfl k28,
      Ov rfl rfl fun _ _ T ⟨k29, _⟩ => ex_move k29,
      Og rfl rfl rfl fun _ _ T ⟨k3, k30, _⟩ => ⟨k30, fun hcQ => ex_fieldAddr (k3.trans s23_3) (fa_31_4 _ _ _)⟩,
      Og rfl rfl rfl fun _ _ T ⟨k31, k30, _⟩ => ⟨k30, fun hcQ => ex_load (k31.trans (if_pos hcQ)) (Try.isAgg25 _) (cell_of (Ext.keep T.ext hb3_24) rfl)⟩,
      Og rfl rfl rfl fun _ _ T ⟨k2, k30, _⟩ => ⟨k30, fun hcQ => ex_fieldAddr (k2.trans s25_2) (fa_29_4 _ _ _)⟩,
      Og rfl rfl rfl fun _ _ T ⟨k33, k30, _⟩ => ⟨k30, fun hcQ => ex_fieldAddr (k33.trans (if_pos hcQ)) (fa_27_0 _ _ _)⟩,
      Og rfl rfl rfl fun _ _ T ⟨k34, k30, _⟩ => ⟨k30, fun hcQ => ex_load (k34.trans (if_pos hcQ)) (Try.isAgg25 _) (cell_of (Ext.keep T.ext hb1_26) rfl)⟩,
      Og rfl rfl rfl fun _ _ T ⟨k32, k35, k30, _⟩ => ⟨k30, fun hcQ => ex_lss (k32.trans (if_pos hcQ)) (k35.trans (if_pos hcQ))⟩,
      Ov rfl rfl fun _ _ T ⟨k30, k36, _⟩ => ex_pick_or k30 rfl k36,
      Ov rfl rfl fun _ _ T ⟨k37, _⟩ => ex_move k37,
      Og rfl rfl rfl fun _ _ T ⟨k3, k38, _⟩ => ⟨k38, fun hcQ => ex_fieldAddr (k3.trans s23_3) (fa_31_4 _ _ _)⟩,
      Og rfl rfl rfl fun _ _ T ⟨k39, k38, _⟩ => ⟨k38, fun hcQ => ex_load (k39.trans (if_pos hcQ)) (Try.isAgg25 _) (cell_of (Ext.keep T.ext hb3_24) rfl)⟩,
      Og rfl rfl rfl fun _ _ T ⟨k2, k38, _⟩ => ⟨k38, fun hcQ => ex_fieldAddr (k2.trans s25_2) (fa_29_4 _ _ _)⟩,
      Og rfl rfl rfl fun _ _ T ⟨k41, k38, _⟩ => ⟨k38, fun hcQ => ex_fieldAddr (k41.trans (if_pos hcQ)) (fa_27_1 _ _ _)⟩,
      Og rfl rfl rfl fun _ _ T ⟨k42, k38, _⟩ => ⟨k38, fun hcQ => ex_load (k42.trans (if_pos hcQ)) (Try.isAgg25 _) (cell_of (Ext.keep T.ext hb1_26) rfl)⟩,
      Og rfl rfl rfl fun _ _ T ⟨k40, k43, k38, _⟩ => ⟨k38, fun hcQ => ex_gtr (k40.trans (if_pos hcQ)) (k43.trans (if_pos hcQ))⟩,
      Ov rfl rfl fun _ _ T ⟨k38, k44, _⟩ => ex_pick_or k38 rfl k44,
      trivial⟩ ?_
    intro a27 w27 d27 z27 t27 e27 q27
    rcases Bool.eq_false_or_eq_true ((((decide (hsp < fsl)) || (decide (fsh < hsp))) || (decide (hdp < fdl))) || (decide (fdh < hdp))) with y28 | y28
    · have c28 := y28; try simp only [Bool.and_eq_true, Bool.or_eq_true, Bool.and_eq_false_iff, Bool.or_eq_false_iff, Bool.not_eq_true', Bool.not_eq_false', decide_eq_true_eq, decide_eq_false_iff_not] at c28
      have s29_45 : a27.eval (.tmp 45) = .bool ((((decide (hsp < fsl)) || (decide (fsh < hsp))) || (decide (hdp < fdl))) || (decide (fdh < hdp))) := e27.2.2.2.2.2.2.2.2.2.2.2.2.2.2.2.2.2.2.2.2.2.2.2.2.2.2.2.2.2.1
      refine wp_cond_true (s29_45.trans (by rw [y28])) ?_
      refine rgs mixed 58 [.eq (.bool false)] [[]] d27 z27 (by kernel_rfl) ⟨Ov rfl rfl fun _ _ T _ => ex_assign rfl, trivial⟩ ?_
      intro a30 w30 d30 z30 t30 e30 q30
      refine wp_ret ?_
      have s31_4 : a30.eval (.tmp 4) = .bool false := e30.1
      repeat (first | (with_reducible refine then_ret ?_) | (with_reducible refine block_ret ?_))
      refine retl (rs := [.tmp 4]) Try.results19 ⟨s31_4, trivial⟩ d30 ?_
      have x32 := (Touch.trans (Touch.trans (Touch.trans (Touch.trans x6 (Ext.touch t3)) (Ext.touch t15)) (Ext.touch t27)) (Ext.touch t30))
      exact ⟨by unfold rmatch; rw [if_neg (by rw [y16]; decide), if_pos y28], x32.ext⟩
    · have c28 := y28; try simp only [Bool.and_eq_true, Bool.or_eq_true, Bool.and_eq_false_iff, Bool.or_eq_false_iff, Bool.not_eq_true', Bool.not_eq_false', decide_eq_true_eq, decide_eq_false_iff_not] at c28
      have s33_45 : a27.eval (.tmp 45) = .bool ((((decide (hsp < fsl)) || (decide (fsh < hsp))) || (decide (hdp < fdl))) || (decide (fdh < hdp))) := e27.2.2.2.2.2.2.2.2.2.2.2.2.2.2.2.2.2.2.2.2.2.2.2.2.2.2.2.2.2.1
      refine wp_cond_false (s33_45.trans (by rw [y28])) ?_
      refine wp_skip ?_
      repeat (with_reducible refine block_norm ?_)
      refine hK22 _ _ ?_
      refine wp_seq ?_
      refine seq_begin ?_
      refine sp z27 rfl rfl (ex_fieldAddr ((q27 2 rfl).trans s25_2) (fa_29_0 _ _ _)) ?_; intro a34 u34 z34
      have hb1_36 := (Ext.keep t27 hb1_26)
      refine sp z34 rfl rfl (ex_loadAgg (cs := [.int .u32 fda, .int .i64 fdb]) (u34.here _ rfl) (Try.isAgg24 _) (Try.sizeOf24 _) (cells_of (off := 0) hb1_36 rfl)) ?_; intro a35 u35 z35
      refine sp z35 rfl rfl (ex_fieldAddr ((u35.past 3 rfl).trans ((u34.past 3 rfl).trans ((q27 3 rfl).trans s23_3))) (fa_31_0 _ _ _)) ?_; intro a37 u37 z37
      have hb3_39 := (Ext.keep t27 hb3_24)
      refine sp z37 rfl rfl (ex_load (u37.here _ rfl) (Try.isAgg22 _) (cell_of hb3_39 rfl)) ?_; intro a38 u38 z38
      refine scx z38 rfl rfl (exl_call Try.func63 rfl rfl (cons_ops ((u38.past 47 rfl).trans ((u37.past 47 rfl).trans (u35.here _ rfl))) (cons_ops (u38.here _ rfl) nil_ops))) (c_rhas fda fdb hd (by omega) (by omega) (by omega) _) ?_; intro w40 a40 t40 u40 z40
      refine sp z40 rfl rfl (ex_move (u40.here _ rfl)) ?_; intro a41 u41 z41
      refine sg z41 rfl rfl rfl (u41.here _ rfl) (fun hcQ => ex_fieldAddr ((u41.past 2 rfl).trans ((u40.past 2 rfl).trans ((u38.past 2 rfl).trans ((u37.past 2 rfl).trans ((u35.past 2 rfl).trans ((u34.past 2 rfl).trans ((q27 2 rfl).trans s25_2))))))) (fa_29_1 _ _ _)) ?_; intro a42 u42 z42
      have hb1_44 := (Ext.keep t40 hb1_36)
      refine sg z42 rfl rfl rfl ((u42.past 51 rfl).trans (u41.here _ rfl)) (fun hcQ => ex_loadAgg (cs := [.int .u32 fsa, .int .i64 fsb]) ((u42.here _ rfl).trans (if_pos hcQ)) (Try.isAgg24 _) (Try.sizeOf24 _) (cells_of (off := 2) hb1_44 rfl)) ?_; intro a43 u43 z43
      refine sg z43 rfl rfl rfl ((u43.past 51 rfl).trans ((u42.past 51 rfl).trans (u41.here _ rfl))) (fun hcQ => ex_fieldAddr ((u43.past 3 rfl).trans ((u42.past 3 rfl).trans ((u41.past 3 rfl).trans ((u40.past 3 rfl).trans ((u38.past 3 rfl).trans ((u37.past 3 rfl).trans ((u35.past 3 rfl).trans ((u34.past 3 rfl).trans ((q27 3 rfl).trans s23_3))))))))) (fa_31_1 _ _ _)) ?_; intro a45 u45 z45
      have hb3_47 := (Ext.keep t40 hb3_39)
      refine sg z45 rfl rfl rfl ((u45.past 51 rfl).trans ((u43.past 51 rfl).trans ((u42.past 51 rfl).trans (u41.here _ rfl)))) (fun hcQ => ex_load ((u45.here _ rfl).trans (if_pos hcQ)) (Try.isAgg22 _) (cell_of hb3_47 rfl)) ?_; intro a46 u46 z46
      refine scg z46 rfl rfl rfl ((u46.past 51 rfl).trans ((u45.past 51 rfl).trans ((u43.past 51 rfl).trans ((u42.past 51 rfl).trans (u41.here _ rfl))))) (fun hcQ => exl_call Try.func63 rfl rfl (cons_ops (((u46.past 53 rfl).trans ((u45.past 53 rfl).trans (u43.here _ rfl))).trans (if_pos hcQ)) (cons_ops ((u46.here _ rfl).trans (if_pos hcQ)) nil_ops))) (fun hcQ => by (try simp only [Bool.and_eq_true, Bool.or_eq_false_iff, Bool.not_eq_true', Bool.not_eq_false', beq_iff_eq, decide_eq_true_eq, decide_eq_false_iff_not] at hcQ); exact c_rhas fsa fsb hs (by omega) (by omega) (by omega) _) ?_; intro w48 a48 t48 u48 z48
      refine sp z48 rfl rfl (ex_pick_and ((u48.past 51 rfl).trans ((u46.past 51 rfl).trans ((u45.past 51 rfl).trans ((u43.past 51 rfl).trans ((u42.past 51 rfl).trans (u41.here _ rfl)))))) (u48.here _ rfl) rfl) ?_; intro a49 u49 z49
      refine sp z49 rfl rfl (ex_assign (u49.here _ rfl)) ?_; intro a50 u50 z50
      have d51 := (u50.defs.trans (u49.defs.trans (u48.defs.trans (u46.defs.trans (u45.defs.trans (u43.defs.trans (u42.defs.trans (u41.defs.trans (u40.defs.trans (u38.defs.trans (u37.defs.trans (u35.defs.trans (u34.defs.trans d27)))))))))))))
      refine seq_end ?_
      refine then_norm ?_
      refine wp_ret ?_
      have s52_4 : a50.eval (.tmp 4) = .bool ((rhas fda fdb hd) && (rhas fsa fsb hs)) := (u50.here _ rfl)
      repeat (first | (with_reducible refine then_ret ?_) | (with_reducible refine block_ret ?_))
      refine retl (rs := [.tmp 4]) Try.results19 ⟨s52_4, trivial⟩ d51 ?_
      have x53 := (Touch.trans (Touch.trans (Touch.trans (Touch.trans (Touch.trans x6 (Ext.touch t3)) (Ext.touch t15)) (Ext.touch t27)) (Ext.touch t40)) (Ext.touch t48))
      exact ⟨by unfold rmatch; rw [if_neg (by rw [y16]; decide), if_neg (by rw [y28]; decide)], x53.ext⟩

end Go.Proofs.Yticodddigaiipaa
