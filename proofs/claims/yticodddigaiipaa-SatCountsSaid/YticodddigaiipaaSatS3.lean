/-
 Contracts of functions of the given program, each proved by a walk through its code: what a call answers, and what it leaves of memory; conditions: those ahead of each theorem's colon.
-/
import Derived.Test.YticodddigaiipaaSatS2
import Derived.Test.YticodddigaiipaaSatK17
set_option linter.unusedVariables false
set_option linter.unusedSimpArgs false
namespace Go.Proofs.Yticodddigaiipaa
open Go.RowKit
theorem zv_139 (w : World) : (zeroValue 139).run Try.prog w = .ok (.agg #[.int .i64 0, .int .i64 0, .int .i64 0, .int .i64 0, .int .i64 0, .bool false]) w := by kernel_rfl
theorem fa_139_0 (b off : Nat) (w : World) : (Instr.fieldAt 139 (.pointer (some ⟨b, off, none⟩)) 0).run Try.prog w = .ok (.pointer (some ⟨b, off, none⟩)) w := by kernel_rfl
theorem fa_139_1 (b off : Nat) (w : World) : (Instr.fieldAt 139 (.pointer (some ⟨b, off, none⟩)) 1).run Try.prog w = .ok (.pointer (some ⟨b, off + 1, none⟩)) w := by kernel_rfl
theorem fa_139_2 (b off : Nat) (w : World) : (Instr.fieldAt 139 (.pointer (some ⟨b, off, none⟩)) 2).run Try.prog w = .ok (.pointer (some ⟨b, off + 2, none⟩)) w := by kernel_rfl
theorem fa_139_3 (b off : Nat) (w : World) : (Instr.fieldAt 139 (.pointer (some ⟨b, off, none⟩)) 3).run Try.prog w = .ok (.pointer (some ⟨b, off + 3, none⟩)) w := by kernel_rfl
theorem fa_139_4 (b off : Nat) (w : World) : (Instr.fieldAt 139 (.pointer (some ⟨b, off, none⟩)) 4).run Try.prog w = .ok (.pointer (some ⟨b, off + 4, none⟩)) w := by kernel_rfl

structure Ex where
 k : Int
 a : Int
 b : Int
 c : Int
 v : Int
 on : Bool
def e0 : Ex := ⟨0, 0, 0, 0, 0, false⟩
def exv (x : Ex) : List Value := [.int .i64 x.k, .int .i64 x.a, .int .i64 x.b, .int .i64 x.c, .int .i64 x.v, .bool x.on]
theorem exv6 : ∀ x, (exv x).length = 6 := fun _ => rfl
def inv1 (x : Int) : List Value := [.int .i64 x]
theorem inv1_1 : ∀ x, (inv1 x).length = 1 := fun _ => rfl
def bov1 (x : Bool) : List Value := [.bool x]
theorem bov1_1 : ∀ x, (bov1 x).length = 1 := fun _ => rfl
/-- an expression may stand at place i -/
structure ExOk (i : Int) (x : Ex) : Prop where
 k : 0 ≤ x.k ∧ x.k ≤ 9
 abc : 3 ≤ x.k → (0 ≤ x.a ∧ x.a < i) ∧ (0 ≤ x.b ∧ x.b < i) ∧ (0 ≤ x.c ∧ x.c < i)
 v : 0 ≤ x.v ∧ x.v < 104
def RightL (L : List Ex) : Prop := ∀ i : Int, 0 ≤ i → i < L.length → ExOk i (at_ L e0 i)
def askd (L : List Ex) (i : Int) : Bool := L.any fun x => decide (x.k = 2) && decide (x.v = i)
def varsL (L : List Ex) : Nat → List Int
 | 0 => []
 | n + 1 => varsL L n ++ if askd L (n : Int) then [(n : Int)] else []
theorem any_take1 {L : List Ex} {k : Nat} (p : Ex → Bool) (h : k < L.length) : (L.take (k + 1)).any p = ((L.take k).any p || p (at_ L e0 (k : Int))) := any_take h

set_option maxRecDepth 100000 in
set_option maxHeartbeats 4000000 in
theorem c_Right06 {w : World} {Q : Option Addr} {L : List Ex} {cq : Nat} (HR : Reads w (.slice Q L.length cq) 6 (flat exv L) L.length)(hL : L.length ≤ 9223372036854775807)  : Calls Try.prog 104 #[.slice Q L.length cq] w fun e w' => ∃ b, e = .returned (.bool b) ∧ Ext w w' ∧ (b = true → RightL L) := by
 refine enter 79 Try.ntmps104 Try.func104 rfl (Nat.le_of_ble_eq_true rfl) fun a0 d0 z0 hargs => ?_
 have s0_0 : a0.eval (.tmp 0) = .slice Q L.length cq := hargs 0 _ rfl
 have x0 := Touch.refl NoF w
 refine rgs mixed 79 [.eq (.bool false)] [[]] d0 z0 (by kernel_rfl) ⟨Ov rfl rfl fun _ _ T _ => ex_assign rfl, trivial⟩ ?_
 intro a1 w1 d1 z1 t1 e1 q1
 refine rgs mixed 79 [.eq (.int .i64 0)] [[]] d1 z1 (by kernel_rfl) ⟨Ov rfl rfl fun _ _ T _ => ex_assign rfl, trivial⟩ ?_
 intro a2 w2 d2 z2 t2 e2 q2
 refine wp_seq_k fun K3 hK3 => ?_
 refine rgs mixed 79 [.eq (.int .i64 0)] [[]] d2 z2 (by kernel_rfl) ⟨Ov rfl rfl fun _ _ T _ => ex_assign rfl, trivial⟩ ?_
 intro a4 w4 d4 z4 t4 e4 q4
 refine wp_block ?_
 have s6_0 := ((q4 0 rfl).trans ((q2 0 rfl).trans ((q1 0 rfl).trans s0_0)))
 have s7_3 : a2.eval (.tmp 3) = .int .i64 0 := e2.1
 have s8_3 := ((q4 3 rfl).trans s7_3)
 have s9_4 : a4.eval (.tmp 4) = .int .i64 0 := e4.1
 have x10 := (Touch.trans (Touch.trans (Touch.trans x0 (Ext.touch t1)) (Ext.touch t2)) (Ext.touch t4))
 refine wp_loopg (σ := Nat) (fun nQ aQ wQ => ∃ k : Nat, ∃ hd : Int, nQ = (L.length - k) ∧
  aQ.defers = [] ∧
  aQ.tmps.size = 79 ∧
  aQ.eval (.tmp 0) = .slice Q L.length cq ∧
  aQ.eval (.tmp 3) = .int .i64 hd ∧
  aQ.eval (.tmp 4) = .int .i64 (k : Int) ∧
  Touch (NoF) w wQ ∧
  (k ≤ L.length) ∧
  (0 ≤ hd ∧ hd ≤ k) ∧
  (∀ j : Int, 0 ≤ j → j < k → ExOk j (at_ L e0 j))) (fun nQ => nQ) _ ⟨0, 0, rfl, d4, z4, s6_0, (s8_3.trans (by first | rfl | (congr 1; omega) | (simp; omega) | simp)), (s9_4.trans (by first | rfl | (congr 1; omega) | (simp; omega) | simp)), x10, Nat.zero_le _, by omega, fun j h0 h1 => by omega⟩ ?_
 rintro nQ5 a5 w5 ⟨k, hd, hmu5, d5, z5, s5_0, s5_3, s5_4, x5, hk, hhd, hP⟩
 refine wp_seq_k fun K11 hK11 => ?_
 refine rgs mixed 79 [.eq (.int .i64 (k : Int)), .eq (.slice Q L.length cq), .eq (.int .i64 (L.length : Int)), .eq (.bool (decide ((k : Int) < (L.length : Int))))] [[(4, none)], [(0, none)], [(7, some 1)], [(6, some 0), (8, some 2)]] d5 z5 (by kernel_rfl) ⟨Ov rfl rfl fun _ _ T ⟨k4, _⟩ => ex_move (k4.trans s5_4),
  Ov rfl rfl fun _ _ T ⟨k0, _⟩ => ex_move (k0.trans s5_0),
  Ov rfl rfl fun _ _ T ⟨k7, _⟩ => ex_len (cons_ops k7 nil_ops) Try.underlying45,
  Ov rfl rfl fun _ _ T ⟨k6, k8, _⟩ => ex_lss k6 k8,
  trivial⟩ ?_
 intro a12 w12 d12 z12 t12 e12 q12
 by_cases c13 : (k : Int) < (L.length : Int)
 ·have y13 := decide_eq_true c13
  have s14_9 : a12.eval (.tmp 9) = .bool (decide ((k : Int) < (L.length : Int))) := e12.2.2.2.1
  refine wp_cond_true (s14_9.trans (by rw [y13])) ?_
  refine wp_skip ?_
  repeat (with_reducible refine block_norm ?_)
  refine hK11 _ _ ?_
  refine wp_seq_k fun K15 hK15 => ?_
  refine wp_block ?_
  refine wp_seq ?_
  refine seq_begin ?_
  refine sp z12 rfl rfl (ex_move ((q12 0 rfl).trans s5_0)) ?_; intro a16 u16 z16
  refine sp z16 rfl rfl (ex_move ((u16.past 4 rfl).trans ((q12 4 rfl).trans s5_4))) ?_; intro a17 u17 z17
  have x20 := (Touch.trans x5 (Ext.touch t12))
  have rd19 := Reads.touch HR x20 (by decide) (reads_noF _ _)
  refine sp z17 rfl rfl (ex_ixr Try.underlying45 (Try.sizeOf139 _) ((u17.past 12 rfl).trans (u16.here _ rfl)) (Reads.eqA rd19 (by omega)) (u17.here _ rfl) (by omega) (by omega)) ?_; intro a18 u18 z18
  refine sp z18 rfl rfl (ex_loadAgg (cs := [.int .i64 ((at_ L e0 (k : Int)).k), .int .i64 ((at_ L e0 (k : Int)).a), .int .i64 ((at_ L e0 (k : Int)).b), .int .i64 ((at_ L e0 (k : Int)).c), .int .i64 ((at_ L e0 (k : Int)).v), .bool ((at_ L e0 (k : Int)).on)]) (u18.here _ rfl) (Try.isAgg139 _) (Try.sizeOf139 _) (rd_ats (us := [.int .i64 ((at_ L e0 (k : Int)).k), .int .i64 ((at_ L e0 (k : Int)).a), .int .i64 ((at_ L e0 (k : Int)).b), .int .i64 ((at_ L e0 (k : Int)).c), .int .i64 ((at_ L e0 (k : Int)).v), .bool ((at_ L e0 (k : Int)).on)]) rd19 (Reads.eqA rd19 (by omega)) exv6 (at_some' (d := e0) (by rfl) (by omega) (by omega)) 0 rfl)) ?_; intro a21 u21 z21
  refine salloc z21 rfl (zv_139 _) ?_; intro b22 w22 a22 t22 g22 hb22 u22 z22
  have yb22_23 := Nat.le_trans (Touch.size x20) g22
  refine sstore (cs := [.int .i64 0, .int .i64 0, .int .i64 0, .int .i64 0, .int .i64 0, .bool false]) (vs := [.int .i64 ((at_ L e0 (k : Int)).k), .int .i64 ((at_ L e0 (k : Int)).a), .int .i64 ((at_ L e0 (k : Int)).b), .int .i64 ((at_ L e0 (k : Int)).c), .int .i64 ((at_ L e0 (k : Int)).v), .bool ((at_ L e0 (k : Int)).on)]) (cs' := [.int .i64 ((at_ L e0 (k : Int)).k), .int .i64 ((at_ L e0 (k : Int)).a), .int .i64 ((at_ L e0 (k : Int)).b), .int .i64 ((at_ L e0 (k : Int)).c), .int .i64 ((at_ L e0 (k : Int)).v), .bool ((at_ L e0 (k : Int)).on)]) z22 rfl (u22.here _ rfl) ((u22.past 15 rfl).trans (u21.here _ rfl)) hb22 (Try.sizeOf139 _) rfl rfl (by decide) (Nat.le_of_ble_eq_true rfl) rfl rfl ?_; intro w24 a24 t24 u24 z24
  have d25 := (u24.defs.trans (u22.defs.trans (u21.defs.trans (u18.defs.trans (u17.defs.trans (u16.defs.trans d12))))))
  refine seq_end ?_
  refine then_norm ?_
  refine wp_seq_k fun K26 hK26 => ?_
  have p30 := fr4 q12 u16.past u17.past u18.past
  have s29_0 := ((u24.past 0 rfl).trans ((u22.past 0 rfl).trans ((u21.past 0 rfl).trans ((p30 0 rfl).trans s5_0))))
  have s31_3 := ((u24.past 3 rfl).trans ((u22.past 3 rfl).trans ((u21.past 3 rfl).trans ((p30 3 rfl).trans s5_3))))
  have s32_4 := ((u24.past 4 rfl).trans ((u22.past 4 rfl).trans ((u21.past 4 rfl).trans ((p30 4 rfl).trans s5_4))))
  have x33 := (Touch.turn (Touch.trans x20 (Ext.touch t22)) t24 (Or.inr yb22_23))
  rcases Bool.eq_false_or_eq_true ((decide (((at_ L e0 (k : Int)).k) < 0)) || (decide (9 < ((at_ L e0 (k : Int)).k)))) with y34 | y34
  ·have c34 := y34; try simp only [Bool.and_eq_true, Bool.or_eq_true, Bool.and_eq_false_iff, Bool.or_eq_false_iff, Bool.not_eq_true', Bool.not_eq_false', decide_eq_true_eq, decide_eq_false_iff_not] at c34
   have s35_5 : a22.eval (.tmp 5) = .pointer (some ⟨b22, 0, none⟩) := (u22.here _ rfl)
   have s36_5 := ((u24.past 5 rfl).trans s35_5)
   refine rgs mixed 79 [.eq (.pointer (some ⟨b22, 0, none⟩)), .eq (.int .i64 ((at_ L e0 (k : Int)).k)), .eq (.bool (decide (((at_ L e0 (k : Int)).k) < 0))), .eq (.bool (decide (((at_ L e0 (k : Int)).k) < 0))), .eq (if (decide (((at_ L e0 (k : Int)).k) < 0)) = false then .pointer (some ⟨b22, 0, none⟩) else undef), .eq (if (decide (((at_ L e0 (k : Int)).k) < 0)) = false then .int .i64 ((at_ L e0 (k : Int)).k) else undef), .eq (if (decide (((at_ L e0 (k : Int)).k) < 0)) = false then .bool (decide (9 < ((at_ L e0 (k : Int)).k))) else undef), .eq (.bool ((decide (((at_ L e0 (k : Int)).k) < 0)) || (decide (9 < ((at_ L e0 (k : Int)).k))))), .eq (.bool ((decide (((at_ L e0 (k : Int)).k) < 0)) || (decide (9 < ((at_ L e0 (k : Int)).k))))), .eq undef, .eq undef, .eq undef, .eq undef, .eq undef, .eq undef, .eq undef, .eq undef, .eq undef, .eq undef, .eq undef, .eq undef, .eq undef, .eq undef, .eq undef, .eq undef, .eq undef, .eq undef, .eq undef, .eq undef, .eq undef, .eq undef, .eq undef, .eq undef, .eq undef, .eq undef, .eq undef, .eq undef, .eq undef, .eq undef, .eq undef, .eq undef, .eq undef, .eq undef, .eq undef, .eq undef, .eq (.bool true), .eq (.bool true), .eq undef, .eq undef, .eq undef, .eq (.bool true), .eq (.bool true), .eq undef, .eq undef, .eq undef, .eq (.bool true)] [[(5, none)], [(16, some 0)], [(17, some 1)], [(18, some 2)], [(5, none), (19, some 3)], [(20, some 4), (19, some 3)], [(21, some 5), (19, some 3)], [(19, some 3), (22, some 6)], [(23, some 7)], [(5, none), (24, some 8)], [(25, some 9), (24, some 8)], [(26, some 10), (24, some 8)], [(27, some 11), (24, some 8)], [(5, none), (28, some 12)], [(29, some 13), (28, some 12)], [(30, some 14), (28, some 12)], [(31, some 15), (28, some 12)], [(5, none), (32, some 16)], [(33, some 17), (32, some 16)], [(4, none), (32, some 16)], [(34, some 18), (35, some 19), (32, some 16)], [(32, some 16), (36, some 20), (28, some 12)], [(37, some 21), (28, some 12)], [(5, none), (38, some 22)], [(39, some 23), (38, some 22)], [(40, some 24), (38, some 22)], [(38, some 22), (41, some 25), (28, some 12)], [(42, some 26), (28, some 12)], [(5, none), (43, some 27)], [(44, some 28), (43, some 27)], [(4, none), (43, some 27)], [(45, some 29), (46, some 30), (43, some 27)], [(43, some 27), (47, some 31), (28, some 12)], [(48, some 32), (28, some 12)], [(5, none), (49, some 33)], [(50, some 34), (49, some 33)], [(51, some 35), (49, some 33)], [(49, some 33), (52, some 36), (28, some 12)], [(53, some 37), (28, some 12)], [(5, none), (54, some 38)], [(55, some 39), (54, some 38)], [(4, none), (54, some 38)], [(56, some 40), (57, some 41), (54, some 38)], [(54, some 38), (58, some 42), (28, some 12)], [(28, some 12), (59, some 43), (24, some 8)], [(24, some 8), (60, some 44)], [(61, some 45)], [(5, none), (62, some 46)], [(63, some 47), (62, some 46)], [(64, some 48), (62, some 46)], [(62, some 46), (65, some 49)], [(66, some 50)], [(5, none), (67, some 51)], [(68, some 52), (67, some 51)], [(69, some 53), (67, some 51)], [(67, some 51), (70, some 54)]] d25 z24 (by kernel_rfl) ⟨Ov rfl rfl fun _ _ T ⟨k5, _⟩ => ex_fieldAddr (k5.trans s36_5) (fa_139_0 _ _ _),
    Ov rfl rfl fun _ _ T ⟨k16, _⟩ => ex_load k16 (Try.isAgg3 _) (cell_of (Ext.keep T.ext t24.here) rfl),
    Ov rfl rfl fun _ _ T ⟨k17, _⟩ => ex_lss k17 rfl,
    Ov rfl rfl fun _ _ T ⟨k18, _⟩ => ex_move k18,
    Og rfl rfl rfl fun _ _ T ⟨k5, k19, _⟩ => ⟨k19, fun hcQ => ex_fieldAddr (k5.trans s36_5) (fa_139_0 _ _ _)⟩,
    Og rfl rfl rfl fun _ _ T ⟨k20, k19, _⟩ => ⟨k19, fun hcQ => ex_load (k20.trans (if_pos hcQ)) (Try.isAgg3 _) (cell_of (Ext.keep T.ext t24.here) rfl)⟩,
    Og rfl rfl rfl fun _ _ T ⟨k21, k19, _⟩ => ⟨k19, fun hcQ => ex_gtr (k21.trans (if_pos hcQ)) rfl⟩,
    Ov rfl rfl fun _ _ T ⟨k19, k22, _⟩ => ex_pick_or k19 rfl k22,
    Ov rfl rfl fun _ _ T ⟨k23, _⟩ => ex_move k23,
    On rfl rfl rfl fun _ _ ⟨k5, k24, _⟩ => .inl (k24.trans (by rw [y34]; rfl)),
    On rfl rfl rfl fun _ _ ⟨k25, k24, _⟩ => .inl (k24.trans (by rw [y34]; rfl)),
    On rfl rfl rfl fun _ _ ⟨k26, k24, _⟩ => .inl (k24.trans (by rw [y34]; rfl)),
    On rfl rfl rfl fun _ _ ⟨k27, k24, _⟩ => .inl (k24.trans (by rw [y34]; rfl)),
    On rfl rfl rfl fun _ _ ⟨k5, k28, _⟩ => .inr k28,
    On rfl rfl rfl fun _ _ ⟨k29, k28, _⟩ => .inr k28,
    On rfl rfl rfl fun _ _ ⟨k30, k28, _⟩ => .inr k28,
    On rfl rfl rfl fun _ _ ⟨k31, k28, _⟩ => .inr k28,
    On rfl rfl rfl fun _ _ ⟨k5, k32, _⟩ => .inr k32,
    On rfl rfl rfl fun _ _ ⟨k33, k32, _⟩ => .inr k32,
    On rfl rfl rfl fun _ _ ⟨k4, k32, _⟩ => .inr k32,
    On rfl rfl rfl fun _ _ ⟨k34, k35, k32, _⟩ => .inr k32,
    On rfl rfl rfl fun _ _ ⟨k32, k36, k28, _⟩ => .inr k28,
    On rfl rfl rfl fun _ _ ⟨k37, k28, _⟩ => .inr k28,
    On rfl rfl rfl fun _ _ ⟨k5, k38, _⟩ => .inr k38,
    On rfl rfl rfl fun _ _ ⟨k39, k38, _⟩ => .inr k38,
    On rfl rfl rfl fun _ _ ⟨k40, k38, _⟩ => .inr k38,
    On rfl rfl rfl fun _ _ ⟨k38, k41, k28, _⟩ => .inr k28,
    On rfl rfl rfl fun _ _ ⟨k42, k28, _⟩ => .inr k28,
    On rfl rfl rfl fun _ _ ⟨k5, k43, _⟩ => .inr k43,
    On rfl rfl rfl fun _ _ ⟨k44, k43, _⟩ => .inr k43,
    On rfl rfl rfl fun _ _ ⟨k4, k43, _⟩ => .inr k43,
    On rfl rfl rfl fun _ _ ⟨k45, k46, k43, _⟩ => .inr k43,
    On rfl rfl rfl fun _ _ ⟨k43, k47, k28, _⟩ => .inr k28,
    On rfl rfl rfl fun _ _ ⟨k48, k28, _⟩ => .inr k28,
    On rfl rfl rfl fun _ _ ⟨k5, k49, _⟩ => .inr k49,
    On rfl rfl rfl fun _ _ ⟨k50, k49, _⟩ => .inr k49,
    On rfl rfl rfl fun _ _ ⟨k51, k49, _⟩ => .inr k49,
    On rfl rfl rfl fun _ _ ⟨k49, k52, k28, _⟩ => .inr k28,
    On rfl rfl rfl fun _ _ ⟨k53, k28, _⟩ => .inr k28,
    On rfl rfl rfl fun _ _ ⟨k5, k54, _⟩ => .inr k54,
    On rfl rfl rfl fun _ _ ⟨k55, k54, _⟩ => .inr k54,
    On rfl rfl rfl fun _ _ ⟨k4, k54, _⟩ => .inr k54,
    On rfl rfl rfl fun _ _ ⟨k56, k57, k54, _⟩ => .inr k54,
    On rfl rfl rfl fun _ _ ⟨k54, k58, k28, _⟩ => .inr k28,
    On rfl rfl rfl fun _ _ ⟨k28, k59, k24, _⟩ => .inl (k24.trans (by rw [y34]; rfl)),
    Ov rfl rfl fun _ _ T ⟨k24, k60, _⟩ => ex_pick_t (k24.trans (by rw [y34])) rfl,
    Ov rfl rfl fun _ _ T ⟨k61, _⟩ => ex_move k61,
    On rfl rfl rfl fun _ _ ⟨k5, k62, _⟩ => .inl k62,
    On rfl rfl rfl fun _ _ ⟨k63, k62, _⟩ => .inl k62,
    On rfl rfl rfl fun _ _ ⟨k64, k62, _⟩ => .inl k62,
    Ov rfl rfl fun _ _ T ⟨k62, k65, _⟩ => ex_pick_t k62 rfl,
    Ov rfl rfl fun _ _ T ⟨k66, _⟩ => ex_move k66,
    On rfl rfl rfl fun _ _ ⟨k5, k67, _⟩ => .inl k67,
    On rfl rfl rfl fun _ _ ⟨k68, k67, _⟩ => .inl k67,
    On rfl rfl rfl fun _ _ ⟨k69, k67, _⟩ => .inl k67,
    Ov rfl rfl fun _ _ T ⟨k67, k70, _⟩ => ex_pick_t k67 rfl,
    trivial⟩ ?_
   intro a37 w37 d37 z37 t37 e37 q37
   have s38_71 : a37.eval (.tmp 71) = .bool true := e37.2.2.2.2.2.2.2.2.2.2.2.2.2.2.2.2.2.2.2.2.2.2.2.2.2.2.2.2.2.2.2.2.2.2.2.2.2.2.2.2.2.2.2.2.2.2.2.2.2.2.2.2.2.2.2.1
   refine wp_cond_true s38_71 ?_
   refine rgs mixed 79 [.eq (.bool false)] [[]] d37 z37 (by kernel_rfl) ⟨Ov rfl rfl fun _ _ T _ => ex_assign rfl, trivial⟩ ?_
   intro a39 w39 d39 z39 t39 e39 q39
   refine wp_ret ?_
   have s40_2 : a39.eval (.tmp 2) = .bool false := e39.1
   repeat (first | (with_reducible refine then_ret ?_) | (with_reducible refine block_ret ?_))
   refine retl (rs := [.tmp 2]) Try.results104 ⟨s40_2, trivial⟩ d39 ?_
   have x41 := (Touch.trans (Touch.trans x33 (Ext.touch t37)) (Ext.touch t39))
   exact ⟨_, rfl, (x41).ext, fun h => by cases h⟩
  ·have c34 := y34; try simp only [Bool.and_eq_true, Bool.or_eq_true, Bool.and_eq_false_iff, Bool.or_eq_false_iff, Bool.not_eq_true', Bool.not_eq_false', decide_eq_true_eq, decide_eq_false_iff_not] at c34
   have s42_5 : a22.eval (.tmp 5) = .pointer (some ⟨b22, 0, none⟩) := (u22.here _ rfl)
   have s43_5 := ((u24.past 5 rfl).trans s42_5)
   refine rgs mixed 79 [.eq (.pointer (some ⟨b22, 0, none⟩)), .eq (.int .i64 ((at_ L e0 (k : Int)).k)), .eq (.bool (decide (((at_ L e0 (k : Int)).k) < 0))), .eq (.bool (decide (((at_ L e0 (k : Int)).k) < 0))), .eq (if (decide (((at_ L e0 (k : Int)).k) < 0)) = false then .pointer (some ⟨b22, 0, none⟩) else undef), .eq (if (decide (((at_ L e0 (k : Int)).k) < 0)) = false then .int .i64 ((at_ L e0 (k : Int)).k) else undef), .eq (if (decide (((at_ L e0 (k : Int)).k) < 0)) = false then .bool (decide (9 < ((at_ L e0 (k : Int)).k))) else undef), .eq (.bool ((decide (((at_ L e0 (k : Int)).k) < 0)) || (decide (9 < ((at_ L e0 (k : Int)).k))))), .eq (.bool ((decide (((at_ L e0 (k : Int)).k) < 0)) || (decide (9 < ((at_ L e0 (k : Int)).k))))), .eq (.pointer (some ⟨b22, 0, none⟩)), .eq (.int .i64 ((at_ L e0 (k : Int)).k)), .eq (.bool (decide (3 ≤ ((at_ L e0 (k : Int)).k)))), .eq (.bool (decide (3 ≤ ((at_ L e0 (k : Int)).k)))), .eq (if (decide (3 ≤ ((at_ L e0 (k : Int)).k))) = true then .pointer (some ⟨b22, 1, none⟩) else undef), .eq (if (decide (3 ≤ ((at_ L e0 (k : Int)).k))) = true then .int .i64 ((at_ L e0 (k : Int)).a) else undef), .eq (if (decide (3 ≤ ((at_ L e0 (k : Int)).k))) = true then .bool (decide (((at_ L e0 (k : Int)).a) < 0)) else undef), .eq (if (decide (3 ≤ ((at_ L e0 (k : Int)).k))) = true then .bool (decide (((at_ L e0 (k : Int)).a) < 0)) else undef), .eq (if ((decide (3 ≤ ((at_ L e0 (k : Int)).k))) && ((decide (((at_ L e0 (k : Int)).a) < 0)) == false)) = true then .pointer (some ⟨b22, 1, none⟩) else undef), .eq (if ((decide (3 ≤ ((at_ L e0 (k : Int)).k))) && ((decide (((at_ L e0 (k : Int)).a) < 0)) == false)) = true then .int .i64 ((at_ L e0 (k : Int)).a) else undef), .eq (if ((decide (3 ≤ ((at_ L e0 (k : Int)).k))) && ((decide (((at_ L e0 (k : Int)).a) < 0)) == false)) = true then .int .i64 (k : Int) else undef), .eq (if ((decide (3 ≤ ((at_ L e0 (k : Int)).k))) && ((decide (((at_ L e0 (k : Int)).a) < 0)) == false)) = true then .bool (decide ((k : Int) ≤ ((at_ L e0 (k : Int)).a))) else undef), .eq (if (decide (3 ≤ ((at_ L e0 (k : Int)).k))) = true then .bool ((decide (((at_ L e0 (k : Int)).a) < 0)) || (decide ((k : Int) ≤ ((at_ L e0 (k : Int)).a)))) else undef), .eq (if (decide (3 ≤ ((at_ L e0 (k : Int)).k))) = true then .bool ((decide (((at_ L e0 (k : Int)).a) < 0)) || (decide ((k : Int) ≤ ((at_ L e0 (k : Int)).a)))) else undef), .eq (if ((decide (3 ≤ ((at_ L e0 (k : Int)).k))) && (((decide (((at_ L e0 (k : Int)).a) < 0)) || (decide ((k : Int) ≤ ((at_ L e0 (k : Int)).a)))) == false)) = true then .pointer (some ⟨b22, 2, none⟩) else undef), .eq (if ((decide (3 ≤ ((at_ L e0 (k : Int)).k))) && (((decide (((at_ L e0 (k : Int)).a) < 0)) || (decide ((k : Int) ≤ ((at_ L e0 (k : Int)).a)))) == false)) = true then .int .i64 ((at_ L e0 (k : Int)).b) else undef), .eq (if ((decide (3 ≤ ((at_ L e0 (k : Int)).k))) && (((decide (((at_ L e0 (k : Int)).a) < 0)) || (decide ((k : Int) ≤ ((at_ L e0 (k : Int)).a)))) == false)) = true then .bool (decide (((at_ L e0 (k : Int)).b) < 0)) else undef), .eq (if (decide (3 ≤ ((at_ L e0 (k : Int)).k))) = true then .bool (((decide (((at_ L e0 (k : Int)).a) < 0)) || (decide ((k : Int) ≤ ((at_ L e0 (k : Int)).a)))) || (decide (((at_ L e0 (k : Int)).b) < 0))) else undef), .eq (if (decide (3 ≤ ((at_ L e0 (k : Int)).k))) = true then .bool (((decide (((at_ L e0 (k : Int)).a) < 0)) || (decide ((k : Int) ≤ ((at_ L e0 (k : Int)).a)))) || (decide (((at_ L e0 (k : Int)).b) < 0))) else undef), .eq (if ((decide (3 ≤ ((at_ L e0 (k : Int)).k))) && ((((decide (((at_ L e0 (k : Int)).a) < 0)) || (decide ((k : Int) ≤ ((at_ L e0 (k : Int)).a)))) || (decide (((at_ L e0 (k : Int)).b) < 0))) == false)) = true then .pointer (some ⟨b22, 2, none⟩) else undef), .eq (if ((decide (3 ≤ ((at_ L e0 (k : Int)).k))) && ((((decide (((at_ L e0 (k : Int)).a) < 0)) || (decide ((k : Int) ≤ ((at_ L e0 (k : Int)).a)))) || (decide (((at_ L e0 (k : Int)).b) < 0))) == false)) = true then .int .i64 ((at_ L e0 (k : Int)).b) else undef), .eq (if ((decide (3 ≤ ((at_ L e0 (k : Int)).k))) && ((((decide (((at_ L e0 (k : Int)).a) < 0)) || (decide ((k : Int) ≤ ((at_ L e0 (k : Int)).a)))) || (decide (((at_ L e0 (k : Int)).b) < 0))) == false)) = true then .int .i64 (k : Int) else undef), .eq (if ((decide (3 ≤ ((at_ L e0 (k : Int)).k))) && ((((decide (((at_ L e0 (k : Int)).a) < 0)) || (decide ((k : Int) ≤ ((at_ L e0 (k : Int)).a)))) || (decide (((at_ L e0 (k : Int)).b) < 0))) == false)) = true then .bool (decide ((k : Int) ≤ ((at_ L e0 (k : Int)).b))) else undef), .eq (if (decide (3 ≤ ((at_ L e0 (k : Int)).k))) = true then .bool ((((decide (((at_ L e0 (k : Int)).a) < 0)) || (decide ((k : Int) ≤ ((at_ L e0 (k : Int)).a)))) || (decide (((at_ L e0 (k : Int)).b) < 0))) || (decide ((k : Int) ≤ ((at_ L e0 (k : Int)).b)))) else undef), .eq (if (decide (3 ≤ ((at_ L e0 (k : Int)).k))) = true then .bool ((((decide (((at_ L e0 (k : Int)).a) < 0)) || (decide ((k : Int) ≤ ((at_ L e0 (k : Int)).a)))) || (decide (((at_ L e0 (k : Int)).b) < 0))) || (decide ((k : Int) ≤ ((at_ L e0 (k : Int)).b)))) else undef), .eq (if ((decide (3 ≤ ((at_ L e0 (k : Int)).k))) && (((((decide (((at_ L e0 (k : Int)).a) < 0)) || (decide ((k : Int) ≤ ((at_ L e0 (k : Int)).a)))) || (decide (((at_ L e0 (k : Int)).b) < 0))) || (decide ((k : Int) ≤ ((at_ L e0 (k : Int)).b)))) == false)) = true then .pointer (some ⟨b22, 3, none⟩) else undef), .eq (if ((decide (3 ≤ ((at_ L e0 (k : Int)).k))) && (((((decide (((at_ L e0 (k : Int)).a) < 0)) || (decide ((k : Int) ≤ ((at_ L e0 (k : Int)).a)))) || (decide (((at_ L e0 (k : Int)).b) < 0))) || (decide ((k : Int) ≤ ((at_ L e0 (k : Int)).b)))) == false)) = true then .int .i64 ((at_ L e0 (k : Int)).c) else undef), .eq (if ((decide (3 ≤ ((at_ L e0 (k : Int)).k))) && (((((decide (((at_ L e0 (k : Int)).a) < 0)) || (decide ((k : Int) ≤ ((at_ L e0 (k : Int)).a)))) || (decide (((at_ L e0 (k : Int)).b) < 0))) || (decide ((k : Int) ≤ ((at_ L e0 (k : Int)).b)))) == false)) = true then .bool (decide (((at_ L e0 (k : Int)).c) < 0)) else undef), .eq (if (decide (3 ≤ ((at_ L e0 (k : Int)).k))) = true then .bool (((((decide (((at_ L e0 (k : Int)).a) < 0)) || (decide ((k : Int) ≤ ((at_ L e0 (k : Int)).a)))) || (decide (((at_ L e0 (k : Int)).b) < 0))) || (decide ((k : Int) ≤ ((at_ L e0 (k : Int)).b)))) || (decide (((at_ L e0 (k : Int)).c) < 0))) else undef), .eq (if (decide (3 ≤ ((at_ L e0 (k : Int)).k))) = true then .bool (((((decide (((at_ L e0 (k : Int)).a) < 0)) || (decide ((k : Int) ≤ ((at_ L e0 (k : Int)).a)))) || (decide (((at_ L e0 (k : Int)).b) < 0))) || (decide ((k : Int) ≤ ((at_ L e0 (k : Int)).b)))) || (decide (((at_ L e0 (k : Int)).c) < 0))) else undef), .eq (if ((decide (3 ≤ ((at_ L e0 (k : Int)).k))) && ((((((decide (((at_ L e0 (k : Int)).a) < 0)) || (decide ((k : Int) ≤ ((at_ L e0 (k : Int)).a)))) || (decide (((at_ L e0 (k : Int)).b) < 0))) || (decide ((k : Int) ≤ ((at_ L e0 (k : Int)).b)))) || (decide (((at_ L e0 (k : Int)).c) < 0))) == false)) = true then .pointer (some ⟨b22, 3, none⟩) else undef), .eq (if ((decide (3 ≤ ((at_ L e0 (k : Int)).k))) && ((((((decide (((at_ L e0 (k : Int)).a) < 0)) || (decide ((k : Int) ≤ ((at_ L e0 (k : Int)).a)))) || (decide (((at_ L e0 (k : Int)).b) < 0))) || (decide ((k : Int) ≤ ((at_ L e0 (k : Int)).b)))) || (decide (((at_ L e0 (k : Int)).c) < 0))) == false)) = true then .int .i64 ((at_ L e0 (k : Int)).c) else undef), .eq (if ((decide (3 ≤ ((at_ L e0 (k : Int)).k))) && ((((((decide (((at_ L e0 (k : Int)).a) < 0)) || (decide ((k : Int) ≤ ((at_ L e0 (k : Int)).a)))) || (decide (((at_ L e0 (k : Int)).b) < 0))) || (decide ((k : Int) ≤ ((at_ L e0 (k : Int)).b)))) || (decide (((at_ L e0 (k : Int)).c) < 0))) == false)) = true then .int .i64 (k : Int) else undef), .eq (if ((decide (3 ≤ ((at_ L e0 (k : Int)).k))) && ((((((decide (((at_ L e0 (k : Int)).a) < 0)) || (decide ((k : Int) ≤ ((at_ L e0 (k : Int)).a)))) || (decide (((at_ L e0 (k : Int)).b) < 0))) || (decide ((k : Int) ≤ ((at_ L e0 (k : Int)).b)))) || (decide (((at_ L e0 (k : Int)).c) < 0))) == false)) = true then .bool (decide ((k : Int) ≤ ((at_ L e0 (k : Int)).c))) else undef), .eq (if (decide (3 ≤ ((at_ L e0 (k : Int)).k))) = true then .bool ((((((decide (((at_ L e0 (k : Int)).a) < 0)) || (decide ((k : Int) ≤ ((at_ L e0 (k : Int)).a)))) || (decide (((at_ L e0 (k : Int)).b) < 0))) || (decide ((k : Int) ≤ ((at_ L e0 (k : Int)).b)))) || (decide (((at_ L e0 (k : Int)).c) < 0))) || (decide ((k : Int) ≤ ((at_ L e0 (k : Int)).c)))) else undef), .eq (.bool ((decide (3 ≤ ((at_ L e0 (k : Int)).k))) && ((((((decide (((at_ L e0 (k : Int)).a) < 0)) || (decide ((k : Int) ≤ ((at_ L e0 (k : Int)).a)))) || (decide (((at_ L e0 (k : Int)).b) < 0))) || (decide ((k : Int) ≤ ((at_ L e0 (k : Int)).b)))) || (decide (((at_ L e0 (k : Int)).c) < 0))) || (decide ((k : Int) ≤ ((at_ L e0 (k : Int)).c)))))), .eq (.bool ((decide (3 ≤ ((at_ L e0 (k : Int)).k))) && ((((((decide (((at_ L e0 (k : Int)).a) < 0)) || (decide ((k : Int) ≤ ((at_ L e0 (k : Int)).a)))) || (decide (((at_ L e0 (k : Int)).b) < 0))) || (decide ((k : Int) ≤ ((at_ L e0 (k : Int)).b)))) || (decide (((at_ L e0 (k : Int)).c) < 0))) || (decide ((k : Int) ≤ ((at_ L e0 (k : Int)).c)))))), .eq (.bool ((decide (3 ≤ ((at_ L e0 (k : Int)).k))) && ((((((decide (((at_ L e0 (k : Int)).a) < 0)) || (decide ((k : Int) ≤ ((at_ L e0 (k : Int)).a)))) || (decide (((at_ L e0 (k : Int)).b) < 0))) || (decide ((k : Int) ≤ ((at_ L e0 (k : Int)).b)))) || (decide (((at_ L e0 (k : Int)).c) < 0))) || (decide ((k : Int) ≤ ((at_ L e0 (k : Int)).c)))))), .eq (if ((decide (3 ≤ ((at_ L e0 (k : Int)).k))) && ((((((decide (((at_ L e0 (k : Int)).a) < 0)) || (decide ((k : Int) ≤ ((at_ L e0 (k : Int)).a)))) || (decide (((at_ L e0 (k : Int)).b) < 0))) || (decide ((k : Int) ≤ ((at_ L e0 (k : Int)).b)))) || (decide (((at_ L e0 (k : Int)).c) < 0))) || (decide ((k : Int) ≤ ((at_ L e0 (k : Int)).c))))) = false then .pointer (some ⟨b22, 4, none⟩) else undef), .eq (if ((decide (3 ≤ ((at_ L e0 (k : Int)).k))) && ((((((decide (((at_ L e0 (k : Int)).a) < 0)) || (decide ((k : Int) ≤ ((at_ L e0 (k : Int)).a)))) || (decide (((at_ L e0 (k : Int)).b) < 0))) || (decide ((k : Int) ≤ ((at_ L e0 (k : Int)).b)))) || (decide (((at_ L e0 (k : Int)).c) < 0))) || (decide ((k : Int) ≤ ((at_ L e0 (k : Int)).c))))) = false then .int .i64 ((at_ L e0 (k : Int)).v) else undef), .eq (if ((decide (3 ≤ ((at_ L e0 (k : Int)).k))) && ((((((decide (((at_ L e0 (k : Int)).a) < 0)) || (decide ((k : Int) ≤ ((at_ L e0 (k : Int)).a)))) || (decide (((at_ L e0 (k : Int)).b) < 0))) || (decide ((k : Int) ≤ ((at_ L e0 (k : Int)).b)))) || (decide (((at_ L e0 (k : Int)).c) < 0))) || (decide ((k : Int) ≤ ((at_ L e0 (k : Int)).c))))) = false then .bool (decide (((at_ L e0 (k : Int)).v) < 0)) else undef), .eq (.bool (((decide (3 ≤ ((at_ L e0 (k : Int)).k))) && ((((((decide (((at_ L e0 (k : Int)).a) < 0)) || (decide ((k : Int) ≤ ((at_ L e0 (k : Int)).a)))) || (decide (((at_ L e0 (k : Int)).b) < 0))) || (decide ((k : Int) ≤ ((at_ L e0 (k : Int)).b)))) || (decide (((at_ L e0 (k : Int)).c) < 0))) || (decide ((k : Int) ≤ ((at_ L e0 (k : Int)).c))))) || (decide (((at_ L e0 (k : Int)).v) < 0)))), .eq (.bool (((decide (3 ≤ ((at_ L e0 (k : Int)).k))) && ((((((decide (((at_ L e0 (k : Int)).a) < 0)) || (decide ((k : Int) ≤ ((at_ L e0 (k : Int)).a)))) || (decide (((at_ L e0 (k : Int)).b) < 0))) || (decide ((k : Int) ≤ ((at_ L e0 (k : Int)).b)))) || (decide (((at_ L e0 (k : Int)).c) < 0))) || (decide ((k : Int) ≤ ((at_ L e0 (k : Int)).c))))) || (decide (((at_ L e0 (k : Int)).v) < 0)))), .eq (if (((decide (3 ≤ ((at_ L e0 (k : Int)).k))) && ((((((decide (((at_ L e0 (k : Int)).a) < 0)) || (decide ((k : Int) ≤ ((at_ L e0 (k : Int)).a)))) || (decide (((at_ L e0 (k : Int)).b) < 0))) || (decide ((k : Int) ≤ ((at_ L e0 (k : Int)).b)))) || (decide (((at_ L e0 (k : Int)).c) < 0))) || (decide ((k : Int) ≤ ((at_ L e0 (k : Int)).c))))) || (decide (((at_ L e0 (k : Int)).v) < 0))) = false then .pointer (some ⟨b22, 4, none⟩) else undef), .eq (if (((decide (3 ≤ ((at_ L e0 (k : Int)).k))) && ((((((decide (((at_ L e0 (k : Int)).a) < 0)) || (decide ((k : Int) ≤ ((at_ L e0 (k : Int)).a)))) || (decide (((at_ L e0 (k : Int)).b) < 0))) || (decide ((k : Int) ≤ ((at_ L e0 (k : Int)).b)))) || (decide (((at_ L e0 (k : Int)).c) < 0))) || (decide ((k : Int) ≤ ((at_ L e0 (k : Int)).c))))) || (decide (((at_ L e0 (k : Int)).v) < 0))) = false then .int .i64 ((at_ L e0 (k : Int)).v) else undef), .eq (if (((decide (3 ≤ ((at_ L e0 (k : Int)).k))) && ((((((decide (((at_ L e0 (k : Int)).a) < 0)) || (decide ((k : Int) ≤ ((at_ L e0 (k : Int)).a)))) || (decide (((at_ L e0 (k : Int)).b) < 0))) || (decide ((k : Int) ≤ ((at_ L e0 (k : Int)).b)))) || (decide (((at_ L e0 (k : Int)).c) < 0))) || (decide ((k : Int) ≤ ((at_ L e0 (k : Int)).c))))) || (decide (((at_ L e0 (k : Int)).v) < 0))) = false then .bool (decide (104 ≤ ((at_ L e0 (k : Int)).v))) else undef), .eq (.bool ((((decide (3 ≤ ((at_ L e0 (k : Int)).k))) && ((((((decide (((at_ L e0 (k : Int)).a) < 0)) || (decide ((k : Int) ≤ ((at_ L e0 (k : Int)).a)))) || (decide (((at_ L e0 (k : Int)).b) < 0))) || (decide ((k : Int) ≤ ((at_ L e0 (k : Int)).b)))) || (decide (((at_ L e0 (k : Int)).c) < 0))) || (decide ((k : Int) ≤ ((at_ L e0 (k : Int)).c))))) || (decide (((at_ L e0 (k : Int)).v) < 0))) || (decide (104 ≤ ((at_ L e0 (k : Int)).v)))))] [[(5, none)], [(16, some 0)], [(17, some 1)], [(18, some 2)], [(5, none), (19, some 3)], [(20, some 4), (19, some 3)], [(21, some 5), (19, some 3)], [(19, some 3), (22, some 6)], [(23, some 7)], [(5, none), (24, some 8)], [(25, some 9), (24, some 8)], [(26, some 10), (24, some 8)], [(27, some 11), (24, some 8)], [(5, none), (28, some 12)], [(29, some 13), (28, some 12)], [(30, some 14), (28, some 12)], [(31, some 15), (28, some 12)], [(5, none), (32, some 16)], [(33, some 17), (32, some 16)], [(4, none), (32, some 16)], [(34, some 18), (35, some 19), (32, some 16)], [(32, some 16), (36, some 20), (28, some 12)], [(37, some 21), (28, some 12)], [(5, none), (38, some 22)], [(39, some 23), (38, some 22)], [(40, some 24), (38, some 22)], [(38, some 22), (41, some 25), (28, some 12)], [(42, some 26), (28, some 12)], [(5, none), (43, some 27)], [(44, some 28), (43, some 27)], [(4, none), (43, some 27)], [(45, some 29), (46, some 30), (43, some 27)], [(43, some 27), (47, some 31), (28, some 12)], [(48, some 32), (28, some 12)], [(5, none), (49, some 33)], [(50, some 34), (49, some 33)], [(51, some 35), (49, some 33)], [(49, some 33), (52, some 36), (28, some 12)], [(53, some 37), (28, some 12)], [(5, none), (54, some 38)], [(55, some 39), (54, some 38)], [(4, none), (54, some 38)], [(56, some 40), (57, some 41), (54, some 38)], [(54, some 38), (58, some 42), (28, some 12)], [(28, some 12), (59, some 43), (24, some 8)], [(24, some 8), (60, some 44)], [(61, some 45)], [(5, none), (62, some 46)], [(63, some 47), (62, some 46)], [(64, some 48), (62, some 46)], [(62, some 46), (65, some 49)], [(66, some 50)], [(5, none), (67, some 51)], [(68, some 52), (67, some 51)], [(69, some 53), (67, some 51)], [(67, some 51), (70, some 54)]] d25 z24 (by kernel_rfl) ⟨Ov rfl rfl fun _ _ T ⟨k5, _⟩ => ex_fieldAddr (k5.trans s43_5) (fa_139_0 _ _ _),
    Ov rfl rfl fun _ _ T ⟨k16, _⟩ => ex_load k16 (Try.isAgg3 _) (cell_of (Ext.keep T.ext t24.here) rfl),
    Ov rfl rfl fun _ _ T ⟨k17, _⟩ => ex_lss k17 rfl,
    Ov rfl rfl fun _ _ T ⟨k18, _⟩ => ex_move k18,
    Og rfl rfl rfl fun _ _ T ⟨k5, k19, _⟩ => ⟨k19, fun hcQ => ex_fieldAddr (k5.trans s43_5) (fa_139_0 _ _ _)⟩,
    Og rfl rfl rfl fun _ _ T ⟨k20, k19, _⟩ => ⟨k19, fun hcQ => ex_load (k20.trans (if_pos hcQ)) (Try.isAgg3 _) (cell_of (Ext.keep T.ext t24.here) rfl)⟩,
    Og rfl rfl rfl fun _ _ T ⟨k21, k19, _⟩ => ⟨k19, fun hcQ => ex_gtr (k21.trans (if_pos hcQ)) rfl⟩,
    Ov rfl rfl fun _ _ T ⟨k19, k22, _⟩ => ex_pick_or k19 rfl k22,
    Ov rfl rfl fun _ _ T ⟨k23, _⟩ => ex_move k23,
    Oy rfl rfl rfl fun _ _ T ⟨k5, k24, _⟩ => ⟨(k24.trans (by rw [y34])), ex_fieldAddr (k5.trans s43_5) (fa_139_0 _ _ _)⟩,
    Oy rfl rfl rfl fun _ _ T ⟨k25, k24, _⟩ => ⟨(k24.trans (by rw [y34])), ex_load k25 (Try.isAgg3 _) (cell_of (Ext.keep T.ext t24.here) rfl)⟩,
    Oy rfl rfl rfl fun _ _ T ⟨k26, k24, _⟩ => ⟨(k24.trans (by rw [y34])), ex_geq k26 rfl⟩,
    Oy rfl rfl rfl fun _ _ T ⟨k27, k24, _⟩ => ⟨(k24.trans (by rw [y34])), ex_move k27⟩,
    Og rfl rfl rfl fun _ _ T ⟨k5, k28, _⟩ => ⟨k28, fun hcQ => ex_fieldAddr (k5.trans s43_5) (fa_139_1 _ _ _)⟩,
    Og rfl rfl rfl fun _ _ T ⟨k29, k28, _⟩ => ⟨k28, fun hcQ => ex_load (k29.trans (if_pos hcQ)) (Try.isAgg3 _) (cell_of (Ext.keep T.ext t24.here) rfl)⟩,
    Og rfl rfl rfl fun _ _ T ⟨k30, k28, _⟩ => ⟨k28, fun hcQ => ex_lss (k30.trans (if_pos hcQ)) rfl⟩,
    Og rfl rfl rfl fun _ _ T ⟨k31, k28, _⟩ => ⟨k28, fun hcQ => ex_move (k31.trans (if_pos hcQ))⟩,
    Og2 rfl rfl rfl fun _ _ T ⟨k5, k32, _⟩ => ⟨k32, fun hcQ => ex_fieldAddr (k5.trans s43_5) (fa_139_1 _ _ _)⟩,
    Og2 rfl rfl rfl fun _ _ T ⟨k33, k32, _⟩ => ⟨k32, fun hcQ => ex_load (k33.trans (if_pos hcQ)) (Try.isAgg3 _) (cell_of (Ext.keep T.ext t24.here) rfl)⟩,
    Og2 rfl rfl rfl fun _ _ T ⟨k4, k32, _⟩ => ⟨k32, fun hcQ => ex_move (k4.trans s32_4)⟩,
    Og2 rfl rfl rfl fun _ _ T ⟨k34, k35, k32, _⟩ => ⟨k32, fun hcQ => ex_geq (k34.trans (if_pos hcQ)) (k35.trans (if_pos hcQ))⟩,
    Og rfl rfl rfl fun _ _ T ⟨k32, k36, k28, _⟩ => ⟨k28, fun hcQ => ex_pick_or (k32.trans (if_pos hcQ)) rfl (k36.trans (opt_in hcQ))⟩,
    Og rfl rfl rfl fun _ _ T ⟨k37, k28, _⟩ => ⟨k28, fun hcQ => ex_move (k37.trans (if_pos hcQ))⟩,
    Og2 rfl rfl rfl fun _ _ T ⟨k5, k38, _⟩ => ⟨k38, fun hcQ => ex_fieldAddr (k5.trans s43_5) (fa_139_2 _ _ _)⟩,
    Og2 rfl rfl rfl fun _ _ T ⟨k39, k38, _⟩ => ⟨k38, fun hcQ => ex_load (k39.trans (if_pos hcQ)) (Try.isAgg3 _) (cell_of (Ext.keep T.ext t24.here) rfl)⟩,
    Og2 rfl rfl rfl fun _ _ T ⟨k40, k38, _⟩ => ⟨k38, fun hcQ => ex_lss (k40.trans (if_pos hcQ)) rfl⟩,
    Og rfl rfl rfl fun _ _ T ⟨k38, k41, k28, _⟩ => ⟨k28, fun hcQ => ex_pick_or (k38.trans (if_pos hcQ)) rfl (k41.trans (opt_in hcQ))⟩,
    Og rfl rfl rfl fun _ _ T ⟨k42, k28, _⟩ => ⟨k28, fun hcQ => ex_move (k42.trans (if_pos hcQ))⟩,
    Og2 rfl rfl rfl fun _ _ T ⟨k5, k43, _⟩ => ⟨k43, fun hcQ => ex_fieldAddr (k5.trans s43_5) (fa_139_2 _ _ _)⟩,
    Og2 rfl rfl rfl fun _ _ T ⟨k44, k43, _⟩ => ⟨k43, fun hcQ => ex_load (k44.trans (if_pos hcQ)) (Try.isAgg3 _) (cell_of (Ext.keep T.ext t24.here) rfl)⟩,
    Og2 rfl rfl rfl fun _ _ T ⟨k4, k43, _⟩ => ⟨k43, fun hcQ => ex_move (k4.trans s32_4)⟩,
    Og2 rfl rfl rfl fun _ _ T ⟨k45, k46, k43, _⟩ => ⟨k43, fun hcQ => ex_geq (k45.trans (if_pos hcQ)) (k46.trans (if_pos hcQ))⟩,
    Og rfl rfl rfl fun _ _ T ⟨k43, k47, k28, _⟩ => ⟨k28, fun hcQ => ex_pick_or (k43.trans (if_pos hcQ)) rfl (k47.trans (opt_in hcQ))⟩,
    Og rfl rfl rfl fun _ _ T ⟨k48, k28, _⟩ => ⟨k28, fun hcQ => ex_move (k48.trans (if_pos hcQ))⟩,
    Og2 rfl rfl rfl fun _ _ T ⟨k5, k49, _⟩ => ⟨k49, fun hcQ => ex_fieldAddr (k5.trans s43_5) (fa_139_3 _ _ _)⟩,
    Og2 rfl rfl rfl fun _ _ T ⟨k50, k49, _⟩ => ⟨k49, fun hcQ => ex_load (k50.trans (if_pos hcQ)) (Try.isAgg3 _) (cell_of (Ext.keep T.ext t24.here) rfl)⟩,
    Og2 rfl rfl rfl fun _ _ T ⟨k51, k49, _⟩ => ⟨k49, fun hcQ => ex_lss (k51.trans (if_pos hcQ)) rfl⟩,
    Og rfl rfl rfl fun _ _ T ⟨k49, k52, k28, _⟩ => ⟨k28, fun hcQ => ex_pick_or (k49.trans (if_pos hcQ)) rfl (k52.trans (opt_in hcQ))⟩,
    Og rfl rfl rfl fun _ _ T ⟨k53, k28, _⟩ => ⟨k28, fun hcQ => ex_move (k53.trans (if_pos hcQ))⟩,
    Og2 rfl rfl rfl fun _ _ T ⟨k5, k54, _⟩ => ⟨k54, fun hcQ => ex_fieldAddr (k5.trans s43_5) (fa_139_3 _ _ _)⟩,
    Og2 rfl rfl rfl fun _ _ T ⟨k55, k54, _⟩ => ⟨k54, fun hcQ => ex_load (k55.trans (if_pos hcQ)) (Try.isAgg3 _) (cell_of (Ext.keep T.ext t24.here) rfl)⟩,
    Og2 rfl rfl rfl fun _ _ T ⟨k4, k54, _⟩ => ⟨k54, fun hcQ => ex_move (k4.trans s32_4)⟩,
    Og2 rfl rfl rfl fun _ _ T ⟨k56, k57, k54, _⟩ => ⟨k54, fun hcQ => ex_geq (k56.trans (if_pos hcQ)) (k57.trans (if_pos hcQ))⟩,
    Og rfl rfl rfl fun _ _ T ⟨k54, k58, k28, _⟩ => ⟨k28, fun hcQ => ex_pick_or (k54.trans (if_pos hcQ)) rfl (k58.trans (opt_in hcQ))⟩,
    Oy rfl rfl rfl fun _ _ T ⟨k28, k59, k24, _⟩ => ⟨(k24.trans (by rw [y34])), ex_pick_and k28 k59 rfl⟩,
    Ov rfl rfl fun _ _ T ⟨k24, k60, _⟩ => ex_pick_f (k24.trans (by rw [y34])) k60,
    Ov rfl rfl fun _ _ T ⟨k61, _⟩ => ex_move k61,
    Og rfl rfl rfl fun _ _ T ⟨k5, k62, _⟩ => ⟨k62, fun hcQ => ex_fieldAddr (k5.trans s43_5) (fa_139_4 _ _ _)⟩,
    Og rfl rfl rfl fun _ _ T ⟨k63, k62, _⟩ => ⟨k62, fun hcQ => ex_load (k63.trans (if_pos hcQ)) (Try.isAgg3 _) (cell_of (Ext.keep T.ext t24.here) rfl)⟩,
    Og rfl rfl rfl fun _ _ T ⟨k64, k62, _⟩ => ⟨k62, fun hcQ => ex_lss (k64.trans (if_pos hcQ)) rfl⟩,
    Ov rfl rfl fun _ _ T ⟨k62, k65, _⟩ => ex_pick_or k62 rfl k65,
    Ov rfl rfl fun _ _ T ⟨k66, _⟩ => ex_move k66,
    Og rfl rfl rfl fun _ _ T ⟨k5, k67, _⟩ => ⟨k67, fun hcQ => ex_fieldAddr (k5.trans s43_5) (fa_139_4 _ _ _)⟩,
    Og rfl rfl rfl fun _ _ T ⟨k68, k67, _⟩ => ⟨k67, fun hcQ => ex_load (k68.trans (if_pos hcQ)) (Try.isAgg3 _) (cell_of (Ext.keep T.ext t24.here) rfl)⟩,
    Og rfl rfl rfl fun _ _ T ⟨k69, k67, _⟩ => ⟨k67, fun hcQ => ex_geq (k69.trans (if_pos hcQ)) rfl⟩,
    Ov rfl rfl fun _ _ T ⟨k67, k70, _⟩ => ex_pick_or k67 rfl k70,
    trivial⟩ ?_
   intro a44 w44 d44 z44 t44 e44 q44
   rcases Bool.eq_false_or_eq_true ((((decide (3 ≤ ((at_ L e0 (k : Int)).k))) && ((((((decide (((at_ L e0 (k : Int)).a) < 0)) || (decide ((k : Int) ≤ ((at_ L e0 (k : Int)).a)))) || (decide (((at_ L e0 (k : Int)).b) < 0))) || (decide ((k : Int) ≤ ((at_ L e0 (k : Int)).b)))) || (decide (((at_ L e0 (k : Int)).c) < 0))) || (decide ((k : Int) ≤ ((at_ L e0 (k : Int)).c))))) || (decide (((at_ L e0 (k : Int)).v) < 0))) || (decide (104 ≤ ((at_ L e0 (k : Int)).v)))) with y45 | y45
   ·have c45 := y45; try simp only [Bool.and_eq_true, Bool.or_eq_true, Bool.and_eq_false_iff, Bool.or_eq_false_iff, Bool.not_eq_true', Bool.not_eq_false', decide_eq_true_eq, decide_eq_false_iff_not] at c45
    have s46_71 : a44.eval (.tmp 71) = .bool ((((decide (3 ≤ ((at_ L e0 (k : Int)).k))) && ((((((decide (((at_ L e0 (k : Int)).a) < 0)) || (decide ((k : Int) ≤ ((at_ L e0 (k : Int)).a)))) || (decide (((at_ L e0 (k : Int)).b) < 0))) || (decide ((k : Int) ≤ ((at_ L e0 (k : Int)).b)))) || (decide (((at_ L e0 (k : Int)).c) < 0))) || (decide ((k : Int) ≤ ((at_ L e0 (k : Int)).c))))) || (decide (((at_ L e0 (k : Int)).v) < 0))) || (decide (104 ≤ ((at_ L e0 (k : Int)).v)))) := e44.2.2.2.2.2.2.2.2.2.2.2.2.2.2.2.2.2.2.2.2.2.2.2.2.2.2.2.2.2.2.2.2.2.2.2.2.2.2.2.2.2.2.2.2.2.2.2.2.2.2.2.2.2.2.2.1
    refine wp_cond_true (s46_71.trans (by rw [y45])) ?_
    refine rgs mixed 79 [.eq (.bool false)] [[]] d44 z44 (by kernel_rfl) ⟨Ov rfl rfl fun _ _ T _ => ex_assign rfl, trivial⟩ ?_
    intro a47 w47 d47 z47 t47 e47 q47
    refine wp_ret ?_
    have s48_2 : a47.eval (.tmp 2) = .bool false := e47.1
    repeat (first | (with_reducible refine then_ret ?_) | (with_reducible refine block_ret ?_))
    refine retl (rs := [.tmp 2]) Try.results104 ⟨s48_2, trivial⟩ d47 ?_
    have x49 := (Touch.trans (Touch.trans x33 (Ext.touch t44)) (Ext.touch t47))
    exact ⟨_, rfl, (x49).ext, fun h => by cases h⟩
   ·have c45 := y45; try simp only [Bool.and_eq_true, Bool.or_eq_true, Bool.and_eq_false_iff, Bool.or_eq_false_iff, Bool.not_eq_true', Bool.not_eq_false', decide_eq_true_eq, decide_eq_false_iff_not] at c45
    have s50_71 : a44.eval (.tmp 71) = .bool ((((decide (3 ≤ ((at_ L e0 (k : Int)).k))) && ((((((decide (((at_ L e0 (k : Int)).a) < 0)) || (decide ((k : Int) ≤ ((at_ L e0 (k : Int)).a)))) || (decide (((at_ L e0 (k : Int)).b) < 0))) || (decide ((k : Int) ≤ ((at_ L e0 (k : Int)).b)))) || (decide (((at_ L e0 (k : Int)).c) < 0))) || (decide ((k : Int) ≤ ((at_ L e0 (k : Int)).c))))) || (decide (((at_ L e0 (k : Int)).v) < 0))) || (decide (104 ≤ ((at_ L e0 (k : Int)).v)))) := e44.2.2.2.2.2.2.2.2.2.2.2.2.2.2.2.2.2.2.2.2.2.2.2.2.2.2.2.2.2.2.2.2.2.2.2.2.2.2.2.2.2.2.2.2.2.2.2.2.2.2.2.2.2.2.2.1
    refine wp_cond_false (s50_71.trans (by rw [y45])) ?_
    refine wp_skip ?_
    repeat (with_reducible refine block_norm ?_)
    refine hK26 _ _ ?_
    have s51_5 := ((q44 5 rfl).trans s43_5)
    have t24.here_52 := (Ext.keep t44 t24.here)
    refine rgs mixed 79 [.eq (.pointer (some ⟨b22, 0, none⟩)), .eq (.int .i64 ((at_ L e0 (k : Int)).k)), .eq (.bool (decide (((at_ L e0 (k : Int)).k) = 8)))] [[(5, none)], [(72, some 0)], [(73, some 1)]] d44 z44 (by kernel_rfl) ⟨Ov rfl rfl fun _ _ T ⟨k5, _⟩ => ex_fieldAddr (k5.trans s51_5) (fa_139_0 _ _ _), Ov rfl rfl fun _ _ T ⟨k72, _⟩ => ex_load k72 (Try.isAgg3 _) (cell_of (Ext.keep T.ext t24.here_52) rfl), Ov rfl rfl fun _ _ T ⟨k73, _⟩ => ex_eql k73 rfl, trivial⟩ ?_
    intro a53 w53 d53 z53 t53 e53 q53
    have x54 := (Touch.trans (Touch.trans x33 (Ext.touch t44)) (Ext.touch t53))
    by_cases c55 : ((at_ L e0 (k : Int)).k) = 8
    ·have y55 := decide_eq_true c55
     have s56_74 : a53.eval (.tmp 74) = .bool (decide (((at_ L e0 (k : Int)).k) = 8)) := e53.2.2.1
     refine wp_cond_true (s56_74.trans (by rw [y55])) ?_
     have s57_3 := ((q53 3 rfl).trans ((q44 3 rfl).trans s31_3))
     refine rg mixed 79 [.eq (.int .i64 hd), .eq (.int .i64 (hd + 1)), .eq (.int .i64 (hd + 1))] [[(3, none)], [(75, some 0)], [(76, some 1)]] d53 z53 (by kernel_rfl) ⟨Ov rfl rfl fun _ _ T ⟨k3, _⟩ => ex_move (k3.trans s57_3), Ov rfl rfl fun _ _ T ⟨k75, _⟩ => ex_add64 k75 rfl (by omega), Ov rfl rfl fun _ _ T ⟨k76, _⟩ => ex_assign k76, trivial⟩ ?_
     intro a58 w58 d58 z58 t58 e58 q58
     repeat (with_reducible refine block_norm ?_)
     refine hK15 _ _ ?_
     have s59_4 := ((q58 4 rfl).trans ((q53 4 rfl).trans ((q44 4 rfl).trans s32_4)))
     refine rg mixed 79 [.eq (.int .i64 (k : Int)), .eq (.int .i64 ((k : Int) + 1)), .eq (.int .i64 ((k : Int) + 1))] [[(4, none)], [(10, some 0)], [(11, some 1)]] d58 z58 (by kernel_rfl) ⟨Ov rfl rfl fun _ _ T ⟨k4, _⟩ => ex_move (k4.trans s59_4), Ov rfl rfl fun _ _ T ⟨k10, _⟩ => ex_add64 k10 rfl (by omega), Ov rfl rfl fun _ _ T ⟨k11, _⟩ => ex_assign k11, trivial⟩ ?_
     intro a60 w60 d60 z60 t60 e60 q60
     repeat (with_reducible refine block_norm ?_)
     have hx : ExOk (k : Int) (at_ L e0 (k : Int)) := by
      refine ⟨?_, fun h3 => ?_, ?_⟩ <;> (simp only [Bool.and_eq_true, Bool.or_eq_true, Bool.and_eq_false_iff, Bool.or_eq_false_iff, Bool.not_eq_true', Bool.not_eq_false', decide_eq_true_eq, decide_eq_false_iff_not, beq_iff_eq, beq_eq_false_iff_ne, ne_eq, Bool.not_eq_true, Bool.not_eq_false] at *; omega)
     have s61_0 := ((q60 0 rfl).trans ((q58 0 rfl).trans ((q53 0 rfl).trans ((q44 0 rfl).trans s29_0))))
     have s62_3 : a58.eval (.tmp 3) = .int .i64 (hd + 1) := e58.2.2.1
     have s63_3 := ((q60 3 rfl).trans s62_3)
     have s64_4 : a60.eval (.tmp 4) = .int .i64 ((k : Int) + 1) := e60.2.2.1
     have x65 := (Touch.trans (Touch.trans x54 (Ext.touch t58)) (Ext.touch t60))
     refine then_norm ?_
     refine ⟨_, ⟨k + 1, hd + 1, rfl, d60, z60, s61_0, s63_3, (s64_4.trans (by first | rfl | (congr 1; omega) | (simp; omega) | simp)), x65, by omega, by omega, fun j h0 h1 => by by_cases hj : j = k; subst hj; exact hx; exact hP j h0 (by omega)⟩, ?_⟩; (show _ < _); rw [hmu5]; exact by omega
    ·have y55 := decide_eq_false c55
     have s66_74 : a53.eval (.tmp 74) = .bool (decide (((at_ L e0 (k : Int)).k) = 8)) := e53.2.2.1
     refine wp_cond_false (s66_74.trans (by rw [y55])) ?_
     refine wp_skip ?_
     repeat (with_reducible refine block_norm ?_)
     refine hK15 _ _ ?_
     have s67_4 := ((q53 4 rfl).trans ((q44 4 rfl).trans s32_4))
     refine rg mixed 79 [.eq (.int .i64 (k : Int)), .eq (.int .i64 ((k : Int) + 1)), .eq (.int .i64 ((k : Int) + 1))] [[(4, none)], [(10, some 0)], [(11, some 1)]] d53 z53 (by kernel_rfl) ⟨Ov rfl rfl fun _ _ T ⟨k4, _⟩ => ex_move (k4.trans s67_4), Ov rfl rfl fun _ _ T ⟨k10, _⟩ => ex_add64 k10 rfl (by omega), Ov rfl rfl fun _ _ T ⟨k11, _⟩ => ex_assign k11, trivial⟩ ?_
     intro a68 w68 d68 z68 t68 e68 q68
     repeat (with_reducible refine block_norm ?_)
     have hx : ExOk (k : Int) (at_ L e0 (k : Int)) := by
      refine ⟨?_, fun h3 => ?_, ?_⟩ <;> (simp only [Bool.and_eq_true, Bool.or_eq_true, Bool.and_eq_false_iff, Bool.or_eq_false_iff, Bool.not_eq_true', Bool.not_eq_false', decide_eq_true_eq, decide_eq_false_iff_not, beq_iff_eq, beq_eq_false_iff_ne, ne_eq, Bool.not_eq_true, Bool.not_eq_false] at *; omega)
     have s69_0 := ((q68 0 rfl).trans ((q53 0 rfl).trans ((q44 0 rfl).trans s29_0)))
     have s70_3 := ((q68 3 rfl).trans ((q53 3 rfl).trans ((q44 3 rfl).trans s31_3)))
     have s71_4 : a68.eval (.tmp 4) = .int .i64 ((k : Int) + 1) := e68.2.2.1
     have x72 := (Touch.trans x54 (Ext.touch t68))
     refine then_norm ?_
     refine ⟨_, ⟨k + 1, hd, rfl, d68, z68, s69_0, s70_3, (s71_4.trans (by first | rfl | (congr 1; omega) | (simp; omega) | simp)), x72, by omega, by omega, fun j h0 h1 => by by_cases hj : j = k; subst hj; exact hx; exact hP j h0 (by omega)⟩, ?_⟩; (show _ < _); rw [hmu5]; exact by omega
 ·have y13 := decide_eq_false c13
  have s73_9 : a12.eval (.tmp 9) = .bool (decide ((k : Int) < (L.length : Int))) := e12.2.2.2.1
  refine wp_cond_false (s73_9.trans (by rw [y13])) ?_
  refine wp_exit ?_
  repeat (first | (with_reducible refine then_exit ?_) | (with_reducible refine block_here ?_) | (with_reducible refine block_past rfl ?_))
  refine hK3 _ _ ?_
  have s74_3 := ((q12 3 rfl).trans s5_3)
  refine rgs mixed 79 [.eq (.int .i64 hd), .eq (.bool (decide (hd ≤ 4))), .eq (.bool (decide (hd ≤ 4)))] [[(3, none)], [(77, some 0)], [(78, some 1)]] d12 z12 (by kernel_rfl) ⟨Ov rfl rfl fun _ _ T ⟨k3, _⟩ => ex_move (k3.trans s74_3), Ov rfl rfl fun _ _ T ⟨k77, _⟩ => ex_leq k77 rfl, Ov rfl rfl fun _ _ T ⟨k78, _⟩ => ex_assign k78, trivial⟩ ?_
  intro a75 w75 d75 z75 t75 e75 q75
  refine wp_ret ?_
  have s76_2 : a75.eval (.tmp 2) = .bool (decide (hd ≤ 4)) := e75.2.2.1
  repeat (first | (with_reducible refine then_ret ?_) | (with_reducible refine block_ret ?_))
  refine retl (rs := [.tmp 2]) Try.results104 ⟨s76_2, trivial⟩ d75 ?_
  have x77 := (Touch.trans (Touch.trans x5 (Ext.touch t12)) (Ext.touch t75))
  exact ⟨_, rfl, (x77).ext, fun _ j h0 h1 => hP j h0 (by omega)⟩

set_option maxRecDepth 100000 in
set_option maxHeartbeats 4000000 in
theorem c_Light06 {w : World} {Q : Option Addr} {L : List Ex} {cq : Nat} (HR : Reads w (.slice Q L.length cq) 6 (flat exv L) L.length)(hL : L.length ≤ 9223372036854775807)  : Calls Try.prog 64 #[.slice Q L.length cq] w fun e w' => ∃ b, e = .returned (.bool b) ∧ Ext w w' ∧ (b = true → RightL L) := by
 refine enter 32 Try.ntmps64 Try.func64 rfl (Nat.le_of_ble_eq_true rfl) fun a0 d0 z0 hargs => ?_
 have s0_0 : a0.eval (.tmp 0) = .slice Q L.length cq := hargs 0 _ rfl
 have x0 := Touch.refl NoF w
 refine rgs mixed 32 [.eq (.bool false)] [[]] d0 z0 (by kernel_rfl) ⟨Ov rfl rfl fun _ _ T _ => ex_assign rfl, trivial⟩ ?_
 intro a1 w1 d1 z1 t1 e1 q1
 refine wp_seq ?_
 refine seq_begin ?_
 refine snew (mk := fun bQ => .map (some bQ)) z1 rfl rfl (ex_makeMap Try.underlying192) ?_; intro b2 w2 a2 t2 g2 hb2 u2 z2
 have x4 := (Touch.trans x0 (Ext.touch t1))
 have yb2_3 := Nat.le_trans (Touch.size x4) g2
 have hm2 := MapF.made (ek := iv) (ev := Value.bool) hb2
 refine sp z2 rfl rfl (ex_assign (u2.here _ rfl)) ?_; intro a5 u5 z5
 have d6 := (u5.defs.trans (u2.defs.trans d1))
 refine seq_end ?_
 refine then_norm ?_
 refine wp_seq_k fun K7 hK7 => ?_
 have s8_0 := ((u5.past 0 rfl).trans ((u2.past 0 rfl).trans ((q1 0 rfl).trans s0_0)))
 refine rgs mixed 32 [.eq (.slice Q L.length cq), .eq (.int .i64 (L.length : Int)), .eq (.int .i64 0)] [[(0, none)], [(7, some 0)], []] d6 z5 (by kernel_rfl) ⟨Ov rfl rfl fun _ _ T ⟨k0, _⟩ => ex_move (k0.trans s8_0), Ov rfl rfl fun _ _ T ⟨k7, _⟩ => ex_len (cons_ops k7 nil_ops) Try.underlying45, Ov rfl rfl fun _ _ T _ => ex_move rfl, trivial⟩ ?_
 intro a9 w9 d9 z9 t9 e9 q9
 refine wp_block ?_
 have hm2_10 := (MapF.keep hm2 t9)
 have s12_0 := ((q9 0 rfl).trans s8_0)
 have s13_2 : a1.eval (.tmp 2) = .bool false := e1.1
 have s14_2 := ((q9 2 rfl).trans ((u5.past 2 rfl).trans ((u2.past 2 rfl).trans s13_2)))
 have s15_3 : a5.eval (.tmp 3) = .map (some b2) := (u5.here _ rfl)
 have s16_3 := ((q9 3 rfl).trans s15_3)
 have s17_7 : a9.eval (.tmp 7) = .slice Q L.length cq := e9.1
 have s18_8 : a9.eval (.tmp 8) = .int .i64 (L.length : Int) := e9.2.1
 have s19_9 : a9.eval (.tmp 9) = .int .i64 0 := e9.2.2.1
 have x20 := (Touch.trans (Touch.trans x4 (Ext.touch t2)) (Ext.touch t9))
 refine wp_loopg (σ := Nat) (fun nQ aQ wQ => ∃ k : Nat, ∃ fm : Int → Option Bool, ∃ cm : Nat, nQ = (L.length - k) ∧
  aQ.defers = [] ∧
  aQ.tmps.size = 32 ∧
  aQ.eval (.tmp 0) = .slice Q L.length cq ∧
  aQ.eval (.tmp 2) = .bool false ∧
  aQ.eval (.tmp 3) = .map (some b2) ∧
  aQ.eval (.tmp 7) = .slice Q L.length cq ∧
  aQ.eval (.tmp 8) = .int .i64 (L.length : Int) ∧
  aQ.eval (.tmp 9) = .int .i64 (k : Int) ∧
  Touch (NoF) w wQ ∧
  MapF wQ b2 iv Value.bool fm cm ∧
  (k ≤ L.length)) (fun nQ => nQ) _ ⟨0, fun _ => none, 0, rfl, d9, z9, s12_0, s14_2, s16_3, s17_7, s18_8, (s19_9.trans (by first | rfl | (congr 1; omega) | (simp; omega) | simp)), x20, hm2_10, Nat.zero_le _⟩ ?_
 rintro nQ11 a11 w11 ⟨k, fm, cm, hmu11, d11, z11, s11_0, s11_2, s11_3, s11_7, s11_8, s11_9, x11, f21, hk⟩
 refine rgs mixed 32 [.eq (.bool (decide ((k : Int) < (L.length : Int))))] [[(9, none), (8, none)]] d11 z11 (by kernel_rfl) ⟨Ov rfl rfl fun _ _ T ⟨k9, k8, _⟩ => ex_lss (k9.trans s11_9) (k8.trans s11_8), trivial⟩ ?_
 intro a22 w22 d22 z22 t22 e22 q22
 refine wp_seq_k fun K23 hK23 => ?_
 by_cases c24 : (k : Int) < (L.length : Int)
 ·have y24 := decide_eq_true c24
  have s25_10 : a22.eval (.tmp 10) = .bool (decide ((k : Int) < (L.length : Int))) := e22.1
  refine wp_cond_true (s25_10.trans (by rw [y24])) ?_
  refine wp_skip ?_
  repeat (with_reducible refine block_norm ?_)
  refine hK23 _ _ ?_
  refine wp_seq_k fun K26 hK26 => ?_
  refine wp_block ?_
  refine wp_seq ?_
  refine seq_begin ?_
  have x29 := (Touch.trans x11 (Ext.touch t22))
  have rd28 := Reads.touch HR x29 (by decide) (reads_noF _ _)
  refine sp z22 rfl rfl (ex_ixr Try.underlying45 (Try.sizeOf139 _) ((q22 7 rfl).trans s11_7) (Reads.eqA rd28 (by omega)) ((q22 9 rfl).trans s11_9) (by omega) (by omega)) ?_; intro a27 u27 z27
  refine sp z27 rfl rfl (ex_loadAgg (cs := [.int .i64 ((at_ L e0 (k : Int)).k), .int .i64 ((at_ L e0 (k : Int)).a), .int .i64 ((at_ L e0 (k : Int)).b), .int .i64 ((at_ L e0 (k : Int)).c), .int .i64 ((at_ L e0 (k : Int)).v), .bool ((at_ L e0 (k : Int)).on)]) (u27.here _ rfl) (Try.isAgg139 _) (Try.sizeOf139 _) (rd_ats (us := [.int .i64 ((at_ L e0 (k : Int)).k), .int .i64 ((at_ L e0 (k : Int)).a), .int .i64 ((at_ L e0 (k : Int)).b), .int .i64 ((at_ L e0 (k : Int)).c), .int .i64 ((at_ L e0 (k : Int)).v), .bool ((at_ L e0 (k : Int)).on)]) rd28 (Reads.eqA rd28 (by omega)) exv6 (at_some' (d := e0) (by rfl) (by omega) (by omega)) 0 rfl)) ?_; intro a30 u30 z30
  refine salloc z30 rfl (zv_139 _) ?_; intro b31 w31 a31 t31 g31 hb31 u31 z31
  have f21_33 := (MapF.keep f21 t22)
  have n32_b2_b31 := ne_lt (MapF.lt f21_33) g31
  have yb31_34 := Nat.le_trans (Touch.size x29) g31
  refine sstore (cs := [.int .i64 0, .int .i64 0, .int .i64 0, .int .i64 0, .int .i64 0, .bool false]) (vs := [.int .i64 ((at_ L e0 (k : Int)).k), .int .i64 ((at_ L e0 (k : Int)).a), .int .i64 ((at_ L e0 (k : Int)).b), .int .i64 ((at_ L e0 (k : Int)).c), .int .i64 ((at_ L e0 (k : Int)).v), .bool ((at_ L e0 (k : Int)).on)]) (cs' := [.int .i64 ((at_ L e0 (k : Int)).k), .int .i64 ((at_ L e0 (k : Int)).a), .int .i64 ((at_ L e0 (k : Int)).b), .int .i64 ((at_ L e0 (k : Int)).c), .int .i64 ((at_ L e0 (k : Int)).v), .bool ((at_ L e0 (k : Int)).on)]) z31 rfl (u31.here _ rfl) ((u31.past 12 rfl).trans (u30.here _ rfl)) hb31 (Try.sizeOf139 _) rfl rfl (by decide) (Nat.le_of_ble_eq_true rfl) rfl rfl ?_; intro w35 a35 t35 u35 z35
  have d36 := (u35.defs.trans (u31.defs.trans (u30.defs.trans (u27.defs.trans d22))))
  refine seq_end ?_
  refine then_norm ?_
  have s37_5 : a31.eval (.tmp 5) = .pointer (some ⟨b31, 0, none⟩) := (u31.here _ rfl)
  have s38_5 := ((u35.past 5 rfl).trans s37_5)
  refine rgs mixed 32 [.eq (.pointer (some ⟨b31, 0, none⟩)), .eq (.int .i64 ((at_ L e0 (k : Int)).k)), .eq (.bool (decide (((at_ L e0 (k : Int)).k) = 2)))] [[(5, none)], [(13, some 0)], [(14, some 1)]] d36 z35 (by kernel_rfl) ⟨Ov rfl rfl fun _ _ T ⟨k5, _⟩ => ex_fieldAddr (k5.trans s38_5) (fa_139_0 _ _ _), Ov rfl rfl fun _ _ T ⟨k13, _⟩ => ex_load k13 (Try.isAgg3 _) (cell_of (Ext.keep T.ext t35.here) rfl), Ov rfl rfl fun _ _ T ⟨k14, _⟩ => ex_eql k14 rfl, trivial⟩ ?_
  intro a39 w39 d39 z39 t39 e39 q39
  have p41 := fr4 q22 u27.past u30.past u31.past
  have s40_0 := ((q39 0 rfl).trans ((u35.past 0 rfl).trans ((p41 0 rfl).trans s11_0)))
  have s42_2 := ((q39 2 rfl).trans ((u35.past 2 rfl).trans ((p41 2 rfl).trans s11_2)))
  have s43_3 := ((q39 3 rfl).trans ((u35.past 3 rfl).trans ((p41 3 rfl).trans s11_3)))
  have s44_7 := ((q39 7 rfl).trans ((u35.past 7 rfl).trans ((p41 7 rfl).trans s11_7)))
  have s45_8 := ((q39 8 rfl).trans ((u35.past 8 rfl).trans ((p41 8 rfl).trans s11_8)))
  have s46_9 := ((q39 9 rfl).trans ((u35.past 9 rfl).trans ((p41 9 rfl).trans s11_9)))
  have f21_47 := (MapF.keep (MapF.same (MapF.keep f21_33 t31) (t35.touch.block _ (MapF.lt (MapF.keep f21_33 t31)) n32_b2_b31)) t39)
  have x48 := (Touch.trans (Touch.turn (Touch.trans x29 (Ext.touch t31)) t35 (Or.inr yb31_34)) (Ext.touch t39))
  by_cases c49 : ((at_ L e0 (k : Int)).k) = 2
  ·have y49 := decide_eq_true c49
   have s50_15 : a39.eval (.tmp 15) = .bool (decide (((at_ L e0 (k : Int)).k) = 2)) := e39.2.2.1
   refine wp_cond_true (s50_15.trans (by rw [y49])) ?_
   refine seq_begin ?_
   refine sp z39 rfl rfl (ex_move s43_3) ?_; intro a51 u51 z51
   refine sp z51 rfl rfl (ex_fieldAddr ((u51.past 5 rfl).trans ((q39 5 rfl).trans s38_5)) (fa_139_4 _ _ _)) ?_; intro a52 u52 z52
   have t35.here_54 := (Ext.keep t39 t35.here)
   refine sp z52 rfl rfl (ex_load (u52.here _ rfl) (Try.isAgg3 _) (cell_of t35.here_54 rfl)) ?_; intro a53 u53 z53
   refine smapu (xk := (at_ L e0 (k : Int)).v) (yv := true) z53 rfl intK Try.underlying192 f21_47 ((u53.past 16 rfl).trans ((u52.past 16 rfl).trans (u51.here _ rfl))) (u53.here _ rfl) rfl ?_; intro o55 w55 a55 t55 hm55 u55 z55
   have d56 := (u55.defs.trans (u53.defs.trans (u52.defs.trans (u51.defs.trans d39))))
   refine seq_end ?_
   repeat (with_reducible refine block_norm ?_)
   refine hK26 _ _ ?_
   have s57_9 := ((u55.past 9 rfl).trans ((u53.past 9 rfl).trans ((u52.past 9 rfl).trans ((u51.past 9 rfl).trans s46_9))))
   refine rg mixed 32 [.eq (.int .i64 ((k : Int) + 1)), .eq (.int .i64 ((k : Int) + 1))] [[(9, none)], [(19, some 0)]] d56 z55 (by kernel_rfl) ⟨Ov rfl rfl fun _ _ T ⟨k9, _⟩ => ex_add64 (k9.trans s57_9) rfl (by omega), Ov rfl rfl fun _ _ T ⟨k19, _⟩ => ex_move k19, trivial⟩ ?_
   intro a58 w58 d58 z58 t58 e58 q58
   repeat (with_reducible refine block_norm ?_)
   have s59_0 := ((q58 0 rfl).trans ((u55.past 0 rfl).trans ((u53.past 0 rfl).trans ((u52.past 0 rfl).trans ((u51.past 0 rfl).trans s40_0)))))
   have s60_2 := ((q58 2 rfl).trans ((u55.past 2 rfl).trans ((u53.past 2 rfl).trans ((u52.past 2 rfl).trans ((u51.past 2 rfl).trans s42_2)))))
   have s61_3 := ((q58 3 rfl).trans ((u55.past 3 rfl).trans ((u53.past 3 rfl).trans ((u52.past 3 rfl).trans ((u51.past 3 rfl).trans s43_3)))))
   have s62_7 := ((q58 7 rfl).trans ((u55.past 7 rfl).trans ((u53.past 7 rfl).trans ((u52.past 7 rfl).trans ((u51.past 7 rfl).trans s44_7)))))
   have s63_8 := ((q58 8 rfl).trans ((u55.past 8 rfl).trans ((u53.past 8 rfl).trans ((u52.past 8 rfl).trans ((u51.past 8 rfl).trans s45_8)))))
   have s64_9 : a58.eval (.tmp 9) = .int .i64 ((k : Int) + 1) := e58.2.1
   have x65 := (Touch.trans (Touch.turn x48 t55 (Or.inr yb2_3)) (Ext.touch t58))
   have hm55_66 := (MapF.keep hm55 t58)
   refine then_norm ?_
   refine ⟨_, ⟨k + 1, _, _, rfl, d58, z58, s59_0, s60_2, s61_3, s62_7, s63_8, (s64_9.trans (by first | rfl | (congr 1; omega) | (simp; omega) | simp)), x65, hm55_66, by omega⟩, ?_⟩; (show _ < _); rw [hmu11]; exact by omega
  ·have y49 := decide_eq_false c49
   have s67_15 : a39.eval (.tmp 15) = .bool (decide (((at_ L e0 (k : Int)).k) = 2)) := e39.2.2.1
   refine wp_cond_false (s67_15.trans (by rw [y49])) ?_
   refine wp_skip ?_
   repeat (with_reducible refine block_norm ?_)
   refine hK26 _ _ ?_
   refine rg mixed 32 [.eq (.int .i64 ((k : Int) + 1)), .eq (.int .i64 ((k : Int) + 1))] [[(9, none)], [(19, some 0)]] d39 z39 (by kernel_rfl) ⟨Ov rfl rfl fun _ _ T ⟨k9, _⟩ => ex_add64 (k9.trans s46_9) rfl (by omega), Ov rfl rfl fun _ _ T ⟨k19, _⟩ => ex_move k19, trivial⟩ ?_
   intro a68 w68 d68 z68 t68 e68 q68
   repeat (with_reducible refine block_norm ?_)
   have s69_0 := ((q68 0 rfl).trans s40_0)
   have s70_2 := ((q68 2 rfl).trans s42_2)
   have s71_3 := ((q68 3 rfl).trans s43_3)
   have s72_7 := ((q68 7 rfl).trans s44_7)
   have s73_8 := ((q68 8 rfl).trans s45_8)
   have s74_9 : a68.eval (.tmp 9) = .int .i64 ((k : Int) + 1) := e68.2.1
   have x75 := (Touch.trans x48 (Ext.touch t68))
   have f21_76 := (MapF.keep f21_47 t68)
   refine then_norm ?_
   refine ⟨_, ⟨k + 1, _, _, rfl, d68, z68, s69_0, s70_2, s71_3, s72_7, s73_8, (s74_9.trans (by first | rfl | (congr 1; omega) | (simp; omega) | simp)), x75, f21_76, by omega⟩, ?_⟩; (show _ < _); rw [hmu11]; exact by omega
 ·have y24 := decide_eq_false c24
  have s77_10 : a22.eval (.tmp 10) = .bool (decide ((k : Int) < (L.length : Int))) := e22.1
  refine wp_cond_false (s77_10.trans (by rw [y24])) ?_
  refine wp_exit ?_
  repeat (first | (with_reducible refine then_exit ?_) | (with_reducible refine block_here ?_) | (with_reducible refine block_past rfl ?_))
  refine hK7 _ _ ?_
  refine wp_seq ?_
  refine seq_begin ?_
  refine sp z22 rfl rfl (ex_move ((q22 0 rfl).trans s11_0)) ?_; intro a78 u78 z78
  refine sp z78 rfl rfl (ex_len (cons_ops (u78.here _ rfl) nil_ops) Try.underlying45) ?_; intro a79 u79 z79
  refine sp z79 rfl rfl (ex_leq (u79.here _ rfl) rfl) ?_; intro a80 u80 z80
  refine sp z80 rfl rfl (ex_move (u80.here _ rfl)) ?_; intro a81 u81 z81
  have p83 := fr4 q22 u78.past u79.past u80.past
  refine sg z81 rfl rfl rfl (u81.here _ rfl) (fun hcQ => ex_move ((u81.past 3 rfl).trans ((p83 3 rfl).trans s11_3))) ?_; intro a82 u82 z82
  have f21_85 := (MapF.keep f21 t22)
  refine sg z82 rfl rfl rfl ((u82.past 23 rfl).trans (u81.here _ rfl)) (fun hcQ => ex_mlen (cons_ops ((u82.here _ rfl).trans (if_pos hcQ)) nil_ops) f21_85 Try.underlying192) ?_; intro a84 u84 z84
  refine sg z84 rfl rfl rfl ((u84.past 23 rfl).trans ((u82.past 23 rfl).trans (u81.here _ rfl))) (fun hcQ => ex_leq ((u84.here _ rfl).trans (if_pos hcQ)) rfl) ?_; intro a86 u86 z86
  refine sp z86 rfl rfl (ex_pick_and ((u86.past 23 rfl).trans ((u84.past 23 rfl).trans ((u82.past 23 rfl).trans (u81.here _ rfl)))) (u86.here _ rfl) rfl) ?_; intro a87 u87 z87
  refine sp z87 rfl rfl (ex_move (u87.here _ rfl)) ?_; intro a88 u88 z88
  have p90 := fr4 u81.past u82.past u84.past u86.past
  refine sg z88 rfl rfl rfl (u88.here _ rfl) (fun hcQ => ex_move ((u88.past 0 rfl).trans ((u87.past 0 rfl).trans ((p90 0 rfl).trans ((p83 0 rfl).trans s11_0))))) ?_; intro a89 u89 z89
  rcases Bool.eq_false_or_eq_true ((decide ((L.length : Int) ≤ 60)) && (decide ((cm : Int) ≤ 10))) with y94 | y94
  ·have c94 := y94; try simp only [Bool.and_eq_true, Bool.or_eq_true, Bool.and_eq_false_iff, Bool.or_eq_false_iff, Bool.not_eq_true', Bool.not_eq_false', decide_eq_true_eq, decide_eq_false_iff_not] at c94
   have x97 := (Touch.trans x11 (Ext.touch t22))
   have rd96 := Reads.touch HR x97 (by decide) (reads_noF _ _)
   refine scy z89 rfl rfl rfl (((u89.past 28 rfl).trans (u88.here _ rfl)).trans (by rw [y94])) (exl_call Try.func104 rfl rfl (cons_ops ((u89.here _ rfl).trans (if_pos y94)) nil_ops)) (c_Right06 rd96 (by omega)) ?_
   rintro e95 w95 ⟨bq95, he95, t95, rl95⟩; refine ⟨_, he95, ?_⟩; intro a95 u95 z95
   refine sp z95 rfl rfl (ex_pick_t (((u95.past 28 rfl).trans ((u89.past 28 rfl).trans (u88.here _ rfl))).trans (by rw [y94])) (u95.here _ rfl)) ?_; intro a98 u98 z98
   refine sp z98 rfl rfl (ex_assign (u98.here _ rfl)) ?_; intro a99 u99 z99
   have d100 := (u99.defs.trans (u98.defs.trans (u95.defs.trans (u89.defs.trans (u88.defs.trans (u87.defs.trans (u86.defs.trans (u84.defs.trans (u82.defs.trans (u81.defs.trans (u80.defs.trans (u79.defs.trans (u78.defs.trans d22)))))))))))))
   refine seq_end ?_
   refine then_norm ?_
   refine wp_ret ?_
   have s101_2 : a99.eval (.tmp 2) = .bool bq95 := (u99.here _ rfl)
   repeat (first | (with_reducible refine then_ret ?_) | (with_reducible refine block_ret ?_))
   refine retl (rs := [.tmp 2]) Try.results64 ⟨s101_2, trivial⟩ d100 ?_
   have x102 := (Touch.trans x97 (Ext.touch t95))
   exact ⟨_, rfl, (x102).ext, fun h => by first | (exfalso; simp_all; done) | (exact rl95 (by simp_all))⟩
  ·have c94 := y94; try simp only [Bool.and_eq_true, Bool.or_eq_true, Bool.and_eq_false_iff, Bool.or_eq_false_iff, Bool.not_eq_true', Bool.not_eq_false', decide_eq_true_eq, decide_eq_false_iff_not] at c94
   refine sn z89 rfl rfl rfl (.inl (((u89.past 28 rfl).trans (u88.here _ rfl)).trans (by rw [y94]; rfl))) ?_; intro a103 u103 z103
   refine sp z103 rfl rfl (ex_pick_f (((u103.past 28 rfl).trans ((u89.past 28 rfl).trans (u88.here _ rfl))).trans (by rw [y94])) rfl) ?_; intro a104 u104 z104
   refine sp z104 rfl rfl (ex_assign (u104.here _ rfl)) ?_; intro a105 u105 z105
   have d106 := (u105.defs.trans (u104.defs.trans (u103.defs.trans (u89.defs.trans (u88.defs.trans (u87.defs.trans (u86.defs.trans (u84.defs.trans (u82.defs.trans (u81.defs.trans (u80.defs.trans (u79.defs.trans (u78.defs.trans d22)))))))))))))
   refine seq_end ?_
   refine then_norm ?_
   refine wp_ret ?_
   have s107_2 : a105.eval (.tmp 2) = .bool false := (u105.here _ rfl)
   repeat (first | (with_reducible refine then_ret ?_) | (with_reducible refine block_ret ?_))
   refine retl (rs := [.tmp 2]) Try.results64 ⟨s107_2, trivial⟩ d106 ?_
   have x108 := (Touch.trans x11 (Ext.touch t22))
   exact ⟨_, rfl, (x108).ext, fun h => by first | (exfalso; simp_all; done) | (exact absurd h (by simp_all))⟩

end Go.Proofs.Yticodddigaiipaa
