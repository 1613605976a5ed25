/-
  Contracts of functions of the given program, each proved by a walk through its code: what a call answers, and what it leaves of memory; conditions: those ahead of each theorem's colon.
-/
import Derived.Test.YticodddigaiipaaT5
set_option linter.unusedVariables false
set_option linter.unusedSimpArgs false
namespace Go.Proofs.Yticodddigaiipaa
open Go.RowKit
theorem zv_191 (w : World) : (zeroValue 191).run Try.prog w = .ok (.agg #[.int .u16 0, .int .i64 0]) w := by kernel_rfl
theorem fa_191_0 (b off : Nat) (w : World) : (Instr.fieldAt 191 (.pointer (some ⟨b, off, none⟩)) 0).run Try.prog w = .ok (.pointer (some ⟨b, off, none⟩)) w := by kernel_rfl
theorem cv_25_22 {n : Int} {w : World} : (convert 25 22 (.int .u16 n)).run Try.prog w = .ok (.int .u32 (IntKind.u32.wrap n)) w := run_conv Try.underlying25 Try.underlying22
theorem cvn_25_22 {n : Int} {w : World} (h : 0 ≤ n ∧ n ≤ 4294967295) : (convert 25 22 (.int .u16 n)).run Try.prog w = .ok (.int .u32 n) w := by rw [cv_25_22, wrap_u32 h]
theorem fa_191_1 (b off : Nat) (w : World) : (Instr.fieldAt 191 (.pointer (some ⟨b, off, none⟩)) 1).run Try.prog w = .ok (.pointer (some ⟨b, off + 1, none⟩)) w := by kernel_rfl

theorem own_max {w : World} {base e k n c : Nat} {A : Option Addr} {xs : List Value} (h : w.ownsRow base e k (.slice A n c) n xs) : n ≤ 9223372036854775807 := by
  rcases h.2 with ⟨h, h0⟩ | ⟨g, cap, cur, hv, hb, hg, hn, hc, hs, ht⟩
  · omega
  · simp only [maxLen] at hc; omega
theorem row_out {N : Nat} {v : Value} {Fp : Nat → Prop} (h : ∀ j, v.ownBlock = some j → N ≤ j) (hF : ∀ k, Fp k → k < N) : ∀ j, v.ownBlock = some j → ¬ Fp j := fun j hj hf => by have := h j hj; have := hF j hf; omega
theorem row_no {N c : Nat} {v : Value} (h : ∀ j, v.ownBlock = some j → N ≤ j) (hc : c < N) : ∀ j, v.ownBlock = some j → j ≠ c := fun j hj => by have := h j hj; omega
theorem row_base {N B : Nat} {v : Value} (h : ∀ j, v.ownBlock = some j → N ≤ j) (hB : B ≤ N) : ∀ j, v.ownBlock = some j → B ≤ j := fun j hj => Nat.le_trans hB (h j hj)
theorem litL_cubic {base x n : Int} (k : Nat) (hb : 0 ≤ base) (hk : base + k ≤ 104) : Cubic (litL base x n k) where
  var y hy := by
    simp only [litL, List.mem_map, List.mem_range] at hy
    obtain ⟨i, hi, rfl⟩ := hy
    simp only []; omega
  up := by
    simp only [litL]
    rw [List.pairwise_map]
    exact (List.pairwise_lt_range (n := k)).imp fun h => by simp only []; omega
theorem c_Cube {w : World} {b : Nat} {Fp : Nat → Prop} {A : List N3} {most : Int} {Q : Option Addr} {L : List Lt} {cq nl : Nat} (hnl : nl = L.length) (H : ArenaAt w b Fp A most) (hW : Wf A) (hm : (A.length : Int) ≤ most) (hm2 : most ≤ 262144) (HL : w.ownsRow 0 133 2 (.slice Q nl cq) nl (flat lvs_ L)) (hL : Cubic L) (hLl : L.length ≤ 104) (hout : ∀ j, (Value.slice Q nl cq).ownBlock = some j → ¬ Fp j) :
    Calls Try.prog 56 #[.pointer (some ⟨b, 0, none⟩), .slice Q nl cq] w fun e w' => ∃ Fp' A' r c, e = .returned (.tuple #[.int .i64 r, .int .i64 c]) ∧ ArenaAt w' b Fp' A' most ∧ Mut Fp Fp' w w' ∧ Res A A' most c (Okn A' r ∧ ∀ v, den A' v r = cubeD L v) ∧ (c ≠ 0 → A' = A ∧ r = 0) ∧ (L = [] → c = 0 ∧ r = 1) ∧ (A', r, c) = cubeF A most L := by
  subst hnl; exact c_Cube_ H hW hm hm2 HL hL hLl hout

set_option maxRecDepth 100000 in
set_option maxHeartbeats 4000000 in
theorem c_Prefix {w : World} {b : Nat} {Fp : Nat → Prop} {A : List N3} {most : Int} (H : ArenaAt w b Fp A most) (hW : Wf A) (hm : (A.length : Int) ≤ most) (hm2 : most ≤ 262144) (q pa pb : Int) (hq : q = 0 ∨ q = 32) (hpb : 0 ≤ pb ∧ pb ≤ 32) (hr : right pa pb = true) : Calls Try.prog 50 #[.pointer (some ⟨b, 0, none⟩), .int .i64 q, .agg #[.int .u32 pa, .int .i64 pb]] w fun e w' => ∃ Fp' A' r c, e = .returned (.tuple #[.int .i64 r, .int .i64 c]) ∧ ArenaAt w' b Fp' A' most ∧ Mut Fp Fp' w w' ∧ Res A A' most c (Okn A' r ∧ ∀ v, den A' v r = cubeD (litL q pa 32 (pb).toNat) v) ∧ (c ≠ 0 → A' = A ∧ r = 0) ∧ (pb = 0 → c = 0 ∧ r = 1) := by
  have hl2 := hW.len
  refine enter 32 Try.ntmps50 Try.func50 rfl (Nat.le_of_ble_eq_true rfl) fun a0 d0 z0 hargs => ?_
  have s0_0 : a0.eval (.tmp 0) = .pointer (some ⟨b, 0, none⟩) := hargs 0 _ rfl
  have s0_1 : a0.eval (.tmp 1) = .int .i64 q := hargs 1 _ rfl
  have s0_2 : a0.eval (.tmp 2) = .agg #[.int .u32 pa, .int .i64 pb] := hargs 2 _ rfl
  have x0 := Touch.refl Fp w
  refine wp_seq ?_
  refine seq_begin ?_
  refine sbox z0 rfl s0_2 ?_; intro b1 w1 a1 t1 g1 hb1 u1 z1
  have o2 : ¬ Fp b1 := fun hQ => by have := ArenaAt.lt H hQ; omega
  have yb1_3 := Nat.le_trans (Touch.size x0) g1
  refine sp z1 rfl rfl (ex_assign rfl) ?_; intro a4 u4 z4
  refine sp z4 rfl rfl (ex_assign rfl) ?_; intro a5 u5 z5
  have d6 := (u5.defs.trans (u4.defs.trans (u1.defs.trans d0)))
  refine seq_end ?_
  refine then_norm ?_
  refine wp_seq_k fun K7 hK7 => ?_
  refine wp_block ?_
  have s8_0 := ((u5.past 0 rfl).trans ((u4.past 0 rfl).trans ((u1.past 0 rfl).trans s0_0)))
  refine rgs mixed 32 [.eq (.pointer (some ⟨b, 0, none⟩)), .eq (.bool false), .eq (.bool false)] [[(0, none)], [(9, some 0)], [(10, some 1)]] d6 z5 (by kernel_rfl) ⟨Ov rfl rfl fun _ _ T ⟨k0, _⟩ => ex_move (k0.trans s8_0), Ov rfl rfl fun _ _ T ⟨k9, _⟩ => ex_ptr_eql_nil k9 rfl (by kernel_rfl), Ov rfl rfl fun _ _ T ⟨k10, _⟩ => ex_assign k10, trivial⟩ ?_
  intro a9 w9 d9 z9 t9 e9 q9
  have s10_8 : a9.eval (.tmp 8) = .bool false := e9.2.2.1
  refine wp_cond_false s10_8 ?_
  have s11_1 := ((q9 1 rfl).trans ((u5.past 1 rfl).trans ((u4.past 1 rfl).trans ((u1.past 1 rfl).trans s0_1))))
  refine rgs mixed 32 [.eq (.int .i64 q), .eq (.bool (decide (q ≠ 0))), .eq (.bool (decide (q ≠ 0))), .eq (if (decide (q ≠ 0)) = true then .int .i64 q else undef), .eq (if (decide (q ≠ 0)) = true then .bool (decide (q ≠ 32)) else undef), .eq (.bool ((decide (q ≠ 0)) && (decide (q ≠ 32)))), .eq (.bool ((decide (q ≠ 0)) && (decide (q ≠ 32))))] [[(1, none)], [(12, some 0)], [(13, some 1)], [(1, none), (14, some 2)], [(15, some 3), (14, some 2)], [(14, some 2), (16, some 4)], [(17, some 5)]] d9 z9 (by kernel_rfl) ⟨Ov rfl rfl fun _ _ T ⟨k1, _⟩ => ex_move (k1.trans s11_1),
    Ov rfl rfl fun _ _ T ⟨k12, _⟩ => ex_neq k12 rfl,
    Ov rfl rfl fun _ _ T ⟨k13, _⟩ => ex_move k13,
    Og rfl rfl rfl fun _ _ T ⟨k1, k14, _⟩ => ⟨k14, fun hcQ => ex_move (k1.trans s11_1)⟩,
    Og rfl rfl rfl fun _ _ T ⟨k15, k14, _⟩ => ⟨k14, fun hcQ => ex_neq (k15.trans (if_pos hcQ)) rfl⟩,
    Ov rfl rfl fun _ _ T ⟨k14, k16, _⟩ => ex_pick_and k14 k16 rfl,
    Ov rfl rfl fun _ _ T ⟨k17, _⟩ => ex_assign k17,
    trivial⟩ ?_
  intro a12 w12 d12 z12 t12 e12 q12
  rcases Bool.eq_false_or_eq_true ((decide (q ≠ 0)) && (decide (q ≠ 32))) with y13 | y13
  · have c13 := y13; try simp only [Bool.and_eq_true, Bool.or_eq_true, Bool.and_eq_false_iff, Bool.or_eq_false_iff, Bool.not_eq_true', Bool.not_eq_false', decide_eq_true_eq, decide_eq_false_iff_not] at c13
    have s14_11 : a12.eval (.tmp 11) = .bool ((decide (q ≠ 0)) && (decide (q ≠ 32))) := e12.2.2.2.2.2.2.1
    refine wp_cond_true (s14_11.trans (by rw [y13])) ?_
    refine rgs mixed 32 [.eq (.int .i64 0), .eq (.int .i64 1)] [[], []] d12 z12 (by kernel_rfl) ⟨Ov rfl rfl fun _ _ T _ => ex_assign rfl, Ov rfl rfl fun _ _ T _ => ex_assign rfl, trivial⟩ ?_
    intro a15 w15 d15 z15 t15 e15 q15
    refine wp_ret ?_
    have s16_6 : a15.eval (.tmp 6) = .int .i64 0 := e15.1
    have s17_7 : a15.eval (.tmp 7) = .int .i64 1 := e15.2.1
    repeat (first | (with_reducible refine then_ret ?_) | (with_reducible refine block_ret ?_))
    refine rett (rs := [.tmp 6, .tmp 7]) (vs := [.int .i64 0, .int .i64 1]) Try.results50 ⟨s16_6, ⟨s17_7, trivial⟩⟩ (by simp) d15 ?_
    exfalso; simp only [Bool.and_eq_true, Bool.not_eq_true', decide_eq_true_eq, hr] at *; first | omega | simp_all
  · have c13 := y13; try simp only [Bool.and_eq_true, Bool.or_eq_true, Bool.and_eq_false_iff, Bool.or_eq_false_iff, Bool.not_eq_true', Bool.not_eq_false', decide_eq_true_eq, decide_eq_false_iff_not] at c13
    have s18_11 : a12.eval (.tmp 11) = .bool ((decide (q ≠ 0)) && (decide (q ≠ 32))) := e12.2.2.2.2.2.2.1
    refine wp_cond_false (s18_11.trans (by rw [y13])) ?_
    refine wp_seq ?_
    refine seq_begin ?_
    have hb1_20 := (Ext.keep t12 (Ext.keep t9 hb1))
    refine sp z12 rfl rfl (ex_loadAgg (cs := [.int .u32 pa, .int .i64 pb]) ((q12 5 rfl).trans ((q9 5 rfl).trans ((u5.past 5 rfl).trans ((u4.past 5 rfl).trans (u1.here _ rfl))))) (Try.isAgg24 _) (Try.sizeOf24 _) (cells_of (off := 0) hb1_20 rfl)) ?_; intro a19 u19 z19
    refine scx z19 rfl rfl (exl_call Try.func100 rfl rfl (cons_ops (u19.here _ rfl) nil_ops)) (c_right pa pb (by omega) _) ?_; intro w21 a21 t21 u21 z21
    refine sp z21 rfl rfl (ex_not (u21.here _ rfl)) ?_; intro a22 u22 z22
    refine sp z22 rfl rfl (ex_assign (u22.here _ rfl)) ?_; intro a23 u23 z23
    have d24 := (u23.defs.trans (u22.defs.trans (u21.defs.trans (u19.defs.trans d12))))
    refine seq_end ?_
    refine then_norm ?_
    rcases Bool.eq_false_or_eq_true (!(right pa pb)) with y25 | y25
    · have c25 := y25
      have s26_18 : a23.eval (.tmp 18) = .bool (!(right pa pb)) := (u23.here _ rfl)
      refine wp_cond_true (s26_18.trans (by rw [y25])) ?_
      refine rgs mixed 32 [.eq (.int .i64 0), .eq (.int .i64 13)] [[], []] d24 z23 (by kernel_rfl) ⟨Ov rfl rfl fun _ _ T _ => ex_assign rfl, Ov rfl rfl fun _ _ T _ => ex_assign rfl, trivial⟩ ?_
      intro a27 w27 d27 z27 t27 e27 q27
      refine wp_ret ?_
      have s28_6 : a27.eval (.tmp 6) = .int .i64 0 := e27.1
      have s29_7 : a27.eval (.tmp 7) = .int .i64 13 := e27.2.1
      repeat (first | (with_reducible refine then_ret ?_) | (with_reducible refine block_ret ?_))
      refine rett (rs := [.tmp 6, .tmp 7]) (vs := [.int .i64 0, .int .i64 13]) Try.results50 ⟨s28_6, ⟨s29_7, trivial⟩⟩ (by simp) d27 ?_
      exfalso; simp only [Bool.and_eq_true, Bool.not_eq_true', decide_eq_true_eq, hr] at *; first | omega | simp_all
    · have c25 := y25
      have s30_18 : a23.eval (.tmp 18) = .bool (!(right pa pb)) := (u23.here _ rfl)
      refine wp_cond_false (s30_18.trans (by rw [y25])) ?_
      refine wp_skip ?_
      repeat (with_reducible refine block_norm ?_)
      refine hK7 _ _ ?_
      refine wp_seq ?_
      refine seq_begin ?_
      refine sp z23 rfl rfl (ex_move ((u23.past 0 rfl).trans ((u22.past 0 rfl).trans ((u21.past 0 rfl).trans ((u19.past 0 rfl).trans ((q12 0 rfl).trans ((q9 0 rfl).trans s8_0))))))) ?_; intro a31 u31 z31
      refine sp z31 rfl rfl (ex_move ((u31.past 1 rfl).trans ((u23.past 1 rfl).trans ((u22.past 1 rfl).trans ((u21.past 1 rfl).trans ((u19.past 1 rfl).trans ((q12 1 rfl).trans s11_1))))))) ?_; intro a32 u32 z32
      refine sp z32 rfl rfl (ex_fieldAddr ((u32.past 5 rfl).trans ((u31.past 5 rfl).trans ((u23.past 5 rfl).trans ((u22.past 5 rfl).trans ((u21.past 5 rfl).trans ((u19.past 5 rfl).trans ((q12 5 rfl).trans ((q9 5 rfl).trans ((u5.past 5 rfl).trans ((u4.past 5 rfl).trans (u1.here _ rfl))))))))))) (fa_24_0 _ _ _)) ?_; intro a33 u33 z33
      have hb1_35 := (Ext.keep t21 hb1_20)
      refine sp z33 rfl rfl (ex_load (u33.here _ rfl) (Try.isAgg22 _) (cell_of hb1_35 rfl)) ?_; intro a34 u34 z34
      refine sp z34 rfl rfl (ex_fieldAddr ((u34.past 5 rfl).trans ((u33.past 5 rfl).trans ((u32.past 5 rfl).trans ((u31.past 5 rfl).trans ((u23.past 5 rfl).trans ((u22.past 5 rfl).trans ((u21.past 5 rfl).trans ((u19.past 5 rfl).trans ((q12 5 rfl).trans ((q9 5 rfl).trans ((u5.past 5 rfl).trans ((u4.past 5 rfl).trans (u1.here _ rfl))))))))))))) (fa_24_1 _ _ _)) ?_; intro a36 u36 z36
      refine sp z36 rfl rfl (ex_load (u36.here _ rfl) (Try.isAgg3 _) (cell_of hb1_35 rfl)) ?_; intro a37 u37 z37
      refine sc z37 rfl rfl (exl_call Try.func57 rfl rfl (cons_ops ((u37.past 23 rfl).trans ((u36.past 23 rfl).trans ((u34.past 23 rfl).trans ((u33.past 23 rfl).trans (u32.here _ rfl))))) (cons_ops ((u37.past 25 rfl).trans ((u36.past 25 rfl).trans (u34.here _ rfl))) (cons_ops rfl (cons_ops (u37.here _ rfl) nil_ops))))) (c_lits q pa 32 pb (by omega) (by omega)) ?_
      rintro e38 w38 ⟨Q38, cq38, he38, ho38, t38, hb38⟩; refine ⟨_, he38, ?_⟩; intro a38 u38 z38
      have H_40 := (ArenaAt.keep (ArenaAt.keep (ArenaAt.keep (ArenaAt.keep H t1) t9) t12) t21)
      have o39 := row_out (hb38) (fun kQ hQ => ArenaAt.lt H_40 hQ)
      have no41 := row_no (hb38) (lt_of hb1_35)
      have x43 := (Touch.trans (Touch.trans (Touch.trans (Touch.trans x0 (Ext.touch t1)) (Ext.touch t9)) (Ext.touch t12)) (Ext.touch t21))
      have no42 := row_base (hb38) (Touch.size x43)
      have H_45 := (ArenaAt.keep H_40 t38)
      refine sc z38 rfl rfl (exl_call Try.func56 rfl rfl (cons_ops ((u38.past 22 rfl).trans ((u37.past 22 rfl).trans ((u36.past 22 rfl).trans ((u34.past 22 rfl).trans ((u33.past 22 rfl).trans ((u32.past 22 rfl).trans (u31.here _ rfl))))))) (cons_ops (u38.here _ rfl) nil_ops))) (c_Cube (litL_len _ _ _ _).symm H_45 hW hm hm2 ho38 (litL_cubic _ (by omega) (by omega)) (by rw [litL_len]; omega) o39) ?_
      rintro e44 w44 ⟨Fp44, A44, r44, c44, he44, H44, m44, R44, back44, more44⟩; refine ⟨_, he44, ?_⟩; intro a44 u44 z44
      have hb1_46 := (Ext.keep t38 hb1_35)
      have o47 := Mut.out m44 (lt_of hb1_46) o2
      have o48 := fun jQ hQ => Mut.out m44 (own_lt ho38 hQ) (o39 jQ hQ)
      have x49 := (Touch.trans x43 (Ext.touch t38))
      have i50 := Mut.inF m44 x49 (fun jQ hQ => Or.inl hQ)
      refine sp z44 rfl rfl (ex_extract (u44.here _ rfl) rfl) ?_; intro a51 u51 z51
      refine sp z51 rfl rfl (ex_extract ((u51.past 29 rfl).trans (u44.here _ rfl)) rfl) ?_; intro a52 u52 z52
      refine sp z52 rfl rfl (ex_assign ((u52.past 30 rfl).trans (u51.here _ rfl))) ?_; intro a53 u53 z53
      refine sp z53 rfl rfl (ex_assign ((u53.past 31 rfl).trans (u52.here _ rfl))) ?_; intro a54 u54 z54
      have d55 := (u54.defs.trans (u53.defs.trans (u52.defs.trans (u51.defs.trans (u44.defs.trans (u38.defs.trans (u37.defs.trans (u36.defs.trans (u34.defs.trans (u33.defs.trans (u32.defs.trans (u31.defs.trans d24))))))))))))
      refine seq_end ?_
      refine then_norm ?_
      refine wp_ret ?_
      have s56_6 : a53.eval (.tmp 6) = .int .i64 r44 := (u53.here _ rfl)
      have s57_6 := ((u54.past 6 rfl).trans s56_6)
      have s58_7 : a54.eval (.tmp 7) = .int .i64 c44 := (u54.here _ rfl)
      repeat (first | (with_reducible refine then_ret ?_) | (with_reducible refine block_ret ?_))
      refine rett (rs := [.tmp 6, .tmp 7]) (vs := [.int .i64 r44, .int .i64 c44]) Try.results50 ⟨s57_6, ⟨s58_7, trivial⟩⟩ (by simp) d55 ?_
      have x59 := (Touch.mut x49 m44 (fun jQ hQ => Or.inl hQ))
      exact ⟨_, _, _, _, rfl, H44, ⟨x59, i50⟩, R44, back44, fun hz => more44.1 (by subst hz; rfl)⟩


theorem any_take {α : Type} {L : List α} {d : α} {p : α → Bool} {k : Nat} (h : k < L.length) : (L.take (k + 1)).any p = ((L.take k).any p || p (at_ L d (k : Int))) := by
  rw [List.take_succ_eq_append_getElem h, List.any_append]
  have e : at_ L d (k : Int) = L[k] := by simp [at_, h]
  rw [e]; simp
theorem all_take {α : Type} {L : List α} {d : α} {p : α → Bool} {k : Nat} (h : k < L.length) : (L.take (k + 1)).all p = ((L.take k).all p && p (at_ L d (k : Int))) := by
  rw [List.take_succ_eq_append_getElem h, List.all_append]
  have e : at_ L d (k : Int) = L[k] := by simp [at_, h]
  rw [e]; simp

set_option maxRecDepth 100000 in
set_option maxHeartbeats 4000000 in
theorem c_Range {w : World} {b : Nat} {Fp : Nat → Prop} {A : List N3} {most : Int} (H : ArenaAt w b Fp A most) (hW : Wf A) (hm : (A.length : Int) ≤ most) (hm2 : most ≤ 262144) (q rl rh : Int) (hq : q = 72 ∨ q = 88) (hl : 0 ≤ rl) (hh : rh ≤ 65535) (hlh : rl ≤ rh) : Calls Try.prog 59 #[.pointer (some ⟨b, 0, none⟩), .int .i64 q, .agg #[.int .u16 rl, .int .u16 rh]] w fun e w' => ∃ Fp' A' r c, e = .returned (.tuple #[.int .i64 r, .int .i64 c]) ∧ ArenaAt w' b Fp' A' most ∧ Mut Fp Fp' w w' ∧ Res A A' most c (Okn A' r ∧ ∃ L, Blks L rl (rh + 1) ∧ ∀ v, den A' v r = L.any fun x => cubeD (litL q x.1 16 x.2.toNat) v) ∧ (c ≠ 0 → A' = A ∧ r = 0) := by
  have hl2 := hW.len
  refine enter 68 Try.ntmps59 Try.func59 rfl (Nat.le_of_ble_eq_true rfl) fun a0 d0 z0 hargs => ?_
  have s0_0 : a0.eval (.tmp 0) = .pointer (some ⟨b, 0, none⟩) := hargs 0 _ rfl
  have s0_1 : a0.eval (.tmp 1) = .int .i64 q := hargs 1 _ rfl
  have s0_2 : a0.eval (.tmp 2) = .agg #[.int .u16 rl, .int .u16 rh] := hargs 2 _ rfl
  have x0 := Touch.refl Fp w
  refine wp_seq ?_
  refine seq_begin ?_
  refine sbox z0 rfl s0_2 ?_; intro b1 w1 a1 t1 g1 hb1 u1 z1
  have o2 : ¬ Fp b1 := fun hQ => by have := ArenaAt.lt H hQ; omega
  have yb1_3 := Nat.le_trans (Touch.size x0) g1
  refine sp z1 rfl rfl (ex_assign rfl) ?_; intro a4 u4 z4
  refine sp z4 rfl rfl (ex_assign rfl) ?_; intro a5 u5 z5
  have d6 := (u5.defs.trans (u4.defs.trans (u1.defs.trans d0)))
  refine seq_end ?_
  refine then_norm ?_
  refine wp_seq_k fun K7 hK7 => ?_
  refine wp_block ?_
  have s8_0 := ((u5.past 0 rfl).trans ((u4.past 0 rfl).trans ((u1.past 0 rfl).trans s0_0)))
  refine rgs mixed 68 [.eq (.pointer (some ⟨b, 0, none⟩)), .eq (.bool false), .eq (.bool false)] [[(0, none)], [(15, some 0)], [(16, some 1)]] d6 z5 (by kernel_rfl) ⟨Ov rfl rfl fun _ _ T ⟨k0, _⟩ => ex_move (k0.trans s8_0), Ov rfl rfl fun _ _ T ⟨k15, _⟩ => ex_ptr_eql_nil k15 rfl (by kernel_rfl), Ov rfl rfl fun _ _ T ⟨k16, _⟩ => ex_assign k16, trivial⟩ ?_
  intro a9 w9 d9 z9 t9 e9 q9
  have s10_14 : a9.eval (.tmp 14) = .bool false := e9.2.2.1
  refine wp_cond_false s10_14 ?_
  have s11_1 := ((q9 1 rfl).trans ((u5.past 1 rfl).trans ((u4.past 1 rfl).trans ((u1.past 1 rfl).trans s0_1))))
  refine rgs mixed 68 [.eq (.int .i64 q), .eq (.bool (decide (q ≠ 72))), .eq (.bool (decide (q ≠ 72))), .eq (if (decide (q ≠ 72)) = true then .int .i64 q else undef), .eq (if (decide (q ≠ 72)) = true then .bool (decide (q ≠ 88)) else undef), .eq (.bool ((decide (q ≠ 72)) && (decide (q ≠ 88)))), .eq (.bool ((decide (q ≠ 72)) && (decide (q ≠ 88))))] [[(1, none)], [(18, some 0)], [(19, some 1)], [(1, none), (20, some 2)], [(21, some 3), (20, some 2)], [(20, some 2), (22, some 4)], [(23, some 5)]] d9 z9 (by kernel_rfl) ⟨Ov rfl rfl fun _ _ T ⟨k1, _⟩ => ex_move (k1.trans s11_1),
    Ov rfl rfl fun _ _ T ⟨k18, _⟩ => ex_neq k18 rfl,
    Ov rfl rfl fun _ _ T ⟨k19, _⟩ => ex_move k19,
    Og rfl rfl rfl fun _ _ T ⟨k1, k20, _⟩ => ⟨k20, fun hcQ => ex_move (k1.trans s11_1)⟩,
    Og rfl rfl rfl fun _ _ T ⟨k21, k20, _⟩ => ⟨k20, fun hcQ => ex_neq (k21.trans (if_pos hcQ)) rfl⟩,
    Ov rfl rfl fun _ _ T ⟨k20, k22, _⟩ => ex_pick_and k20 k22 rfl,
    Ov rfl rfl fun _ _ T ⟨k23, _⟩ => ex_assign k23,
    trivial⟩ ?_
  intro a12 w12 d12 z12 t12 e12 q12
  rcases Bool.eq_false_or_eq_true ((decide (q ≠ 72)) && (decide (q ≠ 88))) with y13 | y13
  · have c13 := y13; try simp only [Bool.and_eq_true, Bool.or_eq_true, Bool.and_eq_false_iff, Bool.or_eq_false_iff, Bool.not_eq_true', Bool.not_eq_false', decide_eq_true_eq, decide_eq_false_iff_not] at c13
    have s14_17 : a12.eval (.tmp 17) = .bool ((decide (q ≠ 72)) && (decide (q ≠ 88))) := e12.2.2.2.2.2.2.1
    refine wp_cond_true (s14_17.trans (by rw [y13])) ?_
    refine rgs mixed 68 [.eq (.int .i64 0), .eq (.int .i64 1)] [[], []] d12 z12 (by kernel_rfl) ⟨Ov rfl rfl fun _ _ T _ => ex_assign rfl, Ov rfl rfl fun _ _ T _ => ex_assign rfl, trivial⟩ ?_
    intro a15 w15 d15 z15 t15 e15 q15
    refine wp_ret ?_
    have s16_6 : a15.eval (.tmp 6) = .int .i64 0 := e15.1
    have s17_7 : a15.eval (.tmp 7) = .int .i64 1 := e15.2.1
    repeat (first | (with_reducible refine then_ret ?_) | (with_reducible refine block_ret ?_))
    refine rett (rs := [.tmp 6, .tmp 7]) (vs := [.int .i64 0, .int .i64 1]) Try.results59 ⟨s16_6, ⟨s17_7, trivial⟩⟩ (by simp) d15 ?_
    exfalso; simp only [Bool.and_eq_true, decide_eq_true_eq] at *; omega
  · have c13 := y13; try simp only [Bool.and_eq_true, Bool.or_eq_true, Bool.and_eq_false_iff, Bool.or_eq_false_iff, Bool.not_eq_true', Bool.not_eq_false', decide_eq_true_eq, decide_eq_false_iff_not] at c13
    have s18_17 : a12.eval (.tmp 17) = .bool ((decide (q ≠ 72)) && (decide (q ≠ 88))) := e12.2.2.2.2.2.2.1
    refine wp_cond_false (s18_17.trans (by rw [y13])) ?_
    have s19_5 : a1.eval (.tmp 5) = .pointer (some ⟨b1, 0, none⟩) := (u1.here _ rfl)
    have s20_5 := ((q12 5 rfl).trans ((q9 5 rfl).trans ((u5.past 5 rfl).trans ((u4.past 5 rfl).trans s19_5))))
    have hb1_21 := (Ext.keep t12 (Ext.keep t9 hb1))
    refine rgs mixed 68 [.eq (.pointer (some ⟨b1, 0, none⟩)), .eq (.int .u16 rl), .eq (.pointer (some ⟨b1, 1, none⟩)), .eq (.int .u16 rh), .eq (.bool (decide (rh < rl))), .eq (.bool (decide (rh < rl)))] [[(5, none)], [(25, some 0)], [(5, none)], [(27, some 2)], [(26, some 1), (28, some 3)], [(29, some 4)]] d12 z12 (by kernel_rfl) ⟨Ov rfl rfl fun _ _ T ⟨k5, _⟩ => ex_fieldAddr (k5.trans s20_5) (fa_27_0 _ _ _),
      Ov rfl rfl fun _ _ T ⟨k25, _⟩ => ex_load k25 (Try.isAgg25 _) (cell_of (Ext.keep T.ext hb1_21) rfl),
      Ov rfl rfl fun _ _ T ⟨k5, _⟩ => ex_fieldAddr (k5.trans s20_5) (fa_27_1 _ _ _),
      Ov rfl rfl fun _ _ T ⟨k27, _⟩ => ex_load k27 (Try.isAgg25 _) (cell_of (Ext.keep T.ext hb1_21) rfl),
      Ov rfl rfl fun _ _ T ⟨k26, k28, _⟩ => ex_gtr k26 k28,
      Ov rfl rfl fun _ _ T ⟨k29, _⟩ => ex_assign k29,
      trivial⟩ ?_
    intro a22 w22 d22 z22 t22 e22 q22
    by_cases c23 : rh < rl
    · have y23 := decide_eq_true c23
      have s24_24 : a22.eval (.tmp 24) = .bool (decide (rh < rl)) := e22.2.2.2.2.2.1
      refine wp_cond_true (s24_24.trans (by rw [y23])) ?_
      refine rgs mixed 68 [.eq (.int .i64 0), .eq (.int .i64 14)] [[], []] d22 z22 (by kernel_rfl) ⟨Ov rfl rfl fun _ _ T _ => ex_assign rfl, Ov rfl rfl fun _ _ T _ => ex_assign rfl, trivial⟩ ?_
      intro a25 w25 d25 z25 t25 e25 q25
      refine wp_ret ?_
      have s26_6 : a25.eval (.tmp 6) = .int .i64 0 := e25.1
      have s27_7 : a25.eval (.tmp 7) = .int .i64 14 := e25.2.1
      repeat (first | (with_reducible refine then_ret ?_) | (with_reducible refine block_ret ?_))
      refine rett (rs := [.tmp 6, .tmp 7]) (vs := [.int .i64 0, .int .i64 14]) Try.results59 ⟨s26_6, ⟨s27_7, trivial⟩⟩ (by simp) d25 ?_
      exfalso; simp only [Bool.and_eq_true, decide_eq_true_eq] at *; omega
    · have y23 := decide_eq_false c23
      have s28_24 : a22.eval (.tmp 24) = .bool (decide (rh < rl)) := e22.2.2.2.2.2.1
      refine wp_cond_false (s28_24.trans (by rw [y23])) ?_
      refine wp_skip ?_
      repeat (with_reducible refine block_norm ?_)
      refine hK7 _ _ ?_
      refine wp_seq ?_
      refine seq_begin ?_
      refine sp z22 rfl rfl (ex_move ((q22 0 rfl).trans ((q12 0 rfl).trans ((q9 0 rfl).trans s8_0)))) ?_; intro a29 u29 z29
      have H_31 := (ArenaAt.keep (ArenaAt.keep (ArenaAt.keep (ArenaAt.keep H t1) t9) t12) t22)
      refine scx z29 rfl rfl (exl_call Try.func16 rfl rfl (cons_ops (u29.here _ rfl) nil_ops)) (a_len H_31) ?_; intro w30 a30 t30 u30 z30
      refine sp z30 rfl rfl (ex_assign (u30.here _ rfl)) ?_; intro a32 u32 z32
      have d33 := (u32.defs.trans (u30.defs.trans (u29.defs.trans d22)))
      refine seq_end ?_
      refine then_norm ?_
      refine rgs mixed 68 [.eq (.int .i64 0)] [[]] d33 z32 (by kernel_rfl) ⟨Ov rfl rfl fun _ _ T _ => ex_assign rfl, trivial⟩ ?_
      intro a34 w34 d34 z34 t34 e34 q34
      refine wp_seq_k fun K35 hK35 => ?_
      refine wp_seq ?_
      refine seq_begin ?_
      have hb1_37 := (Ext.keep t34 (Ext.keep t30 (Ext.keep t22 hb1_21)))
      refine sp z34 rfl rfl (ex_loadAgg (cs := [.int .u16 rl, .int .u16 rh]) ((q34 5 rfl).trans ((u32.past 5 rfl).trans ((u30.past 5 rfl).trans ((u29.past 5 rfl).trans ((q22 5 rfl).trans s20_5))))) (Try.isAgg27 _) (Try.sizeOf27 _) (cells_of (off := 0) hb1_37 rfl)) ?_; intro a36 u36 z36
      refine sc z36 rfl rfl (exl_call Try.func103 rfl rfl (cons_ops (u36.here _ rfl) nil_ops)) (c_Blocks rl rh (by omega) (by omega) (by omega)) ?_
      rintro e38 w38 ⟨Q38, L38, cq38, he38, ho38, t38, hb38, B38⟩; refine ⟨_, he38, ?_⟩; intro a38 u38 z38
      have H_40 := (ArenaAt.keep (ArenaAt.keep H_31 t30) t34)
      have o39 := row_out (hb38) (fun kQ hQ => ArenaAt.lt H_40 hQ)
      have no41 := row_no (hb38) (lt_of hb1_37)
      have x43 := (Touch.trans (Touch.trans (Touch.trans (Touch.trans (Touch.trans (Touch.trans x0 (Ext.touch t1)) (Ext.touch t9)) (Ext.touch t12)) (Ext.touch t22)) (Ext.touch t30)) (Ext.touch t34))
      have no42 := row_base (hb38) (Touch.size x43)
      refine sp z38 rfl rfl (ex_len (cons_ops (u38.here _ rfl) nil_ops) Try.underlying188) ?_; intro a44 u44 z44
      refine sp z44 rfl rfl (ex_move rfl) ?_; intro a45 u45 z45
      have d46 := (u45.defs.trans (u44.defs.trans (u38.defs.trans (u36.defs.trans d34))))
      refine seq_end ?_
      refine then_norm ?_
      refine wp_block ?_
      have H_47 := (ArenaAt.keep H_40 t38)
      have s49_0 := ((u45.past 0 rfl).trans ((u44.past 0 rfl).trans ((u38.past 0 rfl).trans ((u36.past 0 rfl).trans ((q34 0 rfl).trans ((u32.past 0 rfl).trans ((u30.past 0 rfl).trans ((u29.past 0 rfl).trans ((q22 0 rfl).trans ((q12 0 rfl).trans ((q9 0 rfl).trans s8_0)))))))))))
      have s50_1 := ((u45.past 1 rfl).trans ((u44.past 1 rfl).trans ((u38.past 1 rfl).trans ((u36.past 1 rfl).trans ((q34 1 rfl).trans ((u32.past 1 rfl).trans ((u30.past 1 rfl).trans ((u29.past 1 rfl).trans ((q22 1 rfl).trans ((q12 1 rfl).trans s11_1))))))))))
      have s51_8 : a32.eval (.tmp 8) = .int .i64 (A.length : Int) := (u32.here _ rfl)
      have s52_8 := ((u45.past 8 rfl).trans ((u44.past 8 rfl).trans ((u38.past 8 rfl).trans ((u36.past 8 rfl).trans ((q34 8 rfl).trans s51_8)))))
      have s53_9 : a34.eval (.tmp 9) = .int .i64 0 := e34.1
      have s54_9 := ((u45.past 9 rfl).trans ((u44.past 9 rfl).trans ((u38.past 9 rfl).trans ((u36.past 9 rfl).trans s53_9))))
      have s55_33 : a38.eval (.tmp 33) = .slice Q38 L38.length cq38 := (u38.here _ rfl)
      have s56_33 := ((u45.past 33 rfl).trans ((u44.past 33 rfl).trans s55_33))
      have s57_34 : a44.eval (.tmp 34) = .int .i64 (L38.length : Int) := (u44.here _ rfl)
      have s58_34 := ((u45.past 34 rfl).trans s57_34)
      have s59_35 : a45.eval (.tmp 35) = .int .i64 0 := (u45.here _ rfl)
      have x60 := (Touch.trans x43 (Ext.touch t38))
      refine wp_loopg (σ := Nat) (fun nQ aQ wQ => ∃ k : Nat, ∃ A1 : List N3, ∃ Fp1 : Nat → Prop, ∃ r : Int, nQ = (L38.length - k) ∧
        aQ.defers = [] ∧
        aQ.tmps.size = 68 ∧
        aQ.eval (.tmp 0) = .pointer (some ⟨b, 0, none⟩) ∧
        aQ.eval (.tmp 1) = .int .i64 q ∧
        aQ.eval (.tmp 8) = .int .i64 (A.length : Int) ∧
        aQ.eval (.tmp 9) = .int .i64 r ∧
        aQ.eval (.tmp 33) = .slice Q38 L38.length cq38 ∧
        aQ.eval (.tmp 34) = .int .i64 (L38.length : Int) ∧
        aQ.eval (.tmp 35) = .int .i64 (k : Int) ∧
        Touch (Fp) w wQ ∧
        wQ.ownsRow 0 191 2 (.slice Q38 L38.length cq38) (L38.length) (flat bvs L38) ∧
        ArenaAt wQ b Fp1 A1 most ∧
        (k ≤ L38.length) ∧
        (Wf A1) ∧
        (A <+: A1) ∧
        ((A1.length : Int) ≤ most) ∧
        (Okn A1 r) ∧
        (∀ v, den A1 v r = (L38.take k).any fun x => cubeD (litL q x.1 16 x.2.toNat) v) ∧
        (∀ j, Fp1 j → Fp j ∨ w.heap.size ≤ j) ∧
        (∀ j, (Value.slice Q38 L38.length cq38).ownBlock = some j → ¬ Fp1 j)) (fun nQ => nQ) _ ⟨0, A, Fp, 0, rfl, d46, z45, s49_0, s50_1, s52_8, (s54_9.trans (by first | rfl | (congr 1; omega) | (simp; omega) | simp)), s56_33, s58_34, (s59_35.trans (by first | rfl | (congr 1; omega) | (simp; omega) | simp)), x60, ho38, H_47, Nat.zero_le _, hW, List.prefix_refl _, hm, ⟨Int.le_refl _, by omega⟩, (fun v => rfl), (fun jQ hQ => Or.inl hQ), o39⟩ ?_
      rintro nQ48 a48 w48 ⟨k, A1, Fp1, r, hmu48, d48, z48, s48_0, s48_1, s48_8, s48_9, s48_33, s48_34, s48_35, x48, ho38_61, f62, hk, hwf, hpre, hroom, hok, hden, hin, hout1⟩
      have len1 := hwf.len
      refine rgs mixed 68 [.eq (.bool (decide ((k : Int) < (L38.length : Int))))] [[(35, none), (34, none)]] d48 z48 (by kernel_rfl) ⟨Ov rfl rfl fun _ _ T ⟨k35, k34, _⟩ => ex_lss (k35.trans s48_35) (k34.trans s48_34), trivial⟩ ?_
      intro a63 w63 d63 z63 t63 e63 q63
      refine wp_seq_k fun K64 hK64 => ?_
      by_cases c65 : (k : Int) < (L38.length : Int)
      · have y65 := decide_eq_true c65
        have s66_36 : a63.eval (.tmp 36) = .bool (decide ((k : Int) < (L38.length : Int))) := e63.1
        refine wp_cond_true (s66_36.trans (by rw [y65])) ?_
        refine wp_skip ?_
        repeat (with_reducible refine block_norm ?_)
        refine hK64 _ _ ?_
        refine wp_seq_k fun K67 hK67 => ?_
        refine wp_block ?_
        have ho38_69 := (own_keep ho38_61 t63)
        have hk2 : k < L38.length := by omega
        have hmax := own_max ho38_69
        obtain ⟨rw68, hrw68⟩ := own_addr ho38_69 (by omega)
        have hx := B38.ok _ (at_mem (d := ((0 : Int), (0 : Int))) (i := (k : Int)) (by omega) (by omega))
        refine wp_seq ?_
        refine seq_begin ?_
        refine sp z63 rfl rfl (ex_ixa Try.underlying188 (Try.sizeOf191 _) ((q63 33 rfl).trans s48_33) hrw68 ((q63 35 rfl).trans s48_35) (by omega) (by omega)) ?_; intro a70 u70 z70
        refine sp z70 rfl rfl (ex_loadAgg (cs := [.int .u16 ((at_ L38 (0, 0) (k : Int)).1), .int .i64 ((at_ L38 (0, 0) (k : Int)).2)]) (u70.here _ rfl) (Try.isAgg191 _) (Try.sizeOf191 _) (own_ats (us := [.int .u16 ((at_ L38 (0, 0) (k : Int)).1), .int .i64 ((at_ L38 (0, 0) (k : Int)).2)]) ho38_69 hrw68 bvs2 (at_some' (d := (0, 0)) (by rfl) (by omega) (by omega)) 0 rfl)) ?_; intro a71 u71 z71
        refine salloc z71 rfl (zv_191 _) ?_; intro b72 w72 a72 t72 g72 hb72 u72 z72
        have no73 := no_new ho38_69 g72
        have f62_75 := (ArenaAt.keep f62 t63)
        have o74 : ¬ Fp1 b72 := fun hQ => by have := ArenaAt.lt f62_75 hQ; omega
        have x77 := (Touch.trans x48 (Ext.touch t63))
        have yb72_76 := Nat.le_trans (Touch.size x77) g72
        refine sstore (cs := [.int .u16 0, .int .i64 0]) (vs := [.int .u16 ((at_ L38 (0, 0) (k : Int)).1), .int .i64 ((at_ L38 (0, 0) (k : Int)).2)]) (cs' := [.int .u16 ((at_ L38 (0, 0) (k : Int)).1), .int .i64 ((at_ L38 (0, 0) (k : Int)).2)]) z72 rfl (u72.here _ rfl) ((u72.past 38 rfl).trans (u71.here _ rfl)) hb72 (Try.sizeOf191 _) rfl rfl (by decide) (Nat.le_of_ble_eq_true rfl) rfl rfl ?_; intro w78 a78 t78 u78 z78
        have d79 := (u78.defs.trans (u72.defs.trans (u71.defs.trans (u70.defs.trans d63))))
        refine seq_end ?_
        refine then_norm ?_
        refine wp_seq ?_
        refine seq_begin ?_
        refine sp z78 rfl rfl (ex_move ((u78.past 0 rfl).trans ((u72.past 0 rfl).trans ((u71.past 0 rfl).trans ((u70.past 0 rfl).trans ((q63 0 rfl).trans s48_0)))))) ?_; intro a80 u80 z80
        refine sp z80 rfl rfl (ex_move ((u80.past 1 rfl).trans ((u78.past 1 rfl).trans ((u72.past 1 rfl).trans ((u71.past 1 rfl).trans ((u70.past 1 rfl).trans ((q63 1 rfl).trans s48_1))))))) ?_; intro a81 u81 z81
        refine sp z81 rfl rfl (ex_fieldAddr ((u81.past 11 rfl).trans ((u80.past 11 rfl).trans ((u78.past 11 rfl).trans (u72.here _ rfl)))) (fa_191_0 _ _ _)) ?_; intro a82 u82 z82
        refine sp z82 rfl rfl (ex_load (u82.here _ rfl) (Try.isAgg25 _) (cell_of t78.here rfl)) ?_; intro a83 u83 z83
        refine sp z83 rfl rfl (ex_convert (u83.here _ rfl) (cvn_25_22 (by omega))) ?_; intro a84 u84 z84
        refine sp z84 rfl rfl (ex_fieldAddr ((u84.past 11 rfl).trans ((u83.past 11 rfl).trans ((u82.past 11 rfl).trans ((u81.past 11 rfl).trans ((u80.past 11 rfl).trans ((u78.past 11 rfl).trans (u72.here _ rfl))))))) (fa_191_1 _ _ _)) ?_; intro a85 u85 z85
        refine sp z85 rfl rfl (ex_load (u85.here _ rfl) (Try.isAgg3 _) (cell_of t78.here rfl)) ?_; intro a86 u86 z86
        refine sc z86 rfl rfl (exl_call Try.func57 rfl rfl (cons_ops ((u86.past 41 rfl).trans ((u85.past 41 rfl).trans ((u84.past 41 rfl).trans ((u83.past 41 rfl).trans ((u82.past 41 rfl).trans (u81.here _ rfl)))))) (cons_ops ((u86.past 44 rfl).trans ((u85.past 44 rfl).trans (u84.here _ rfl))) (cons_ops rfl (cons_ops (u86.here _ rfl) nil_ops))))) (c_lits q ((at_ L38 (0, 0) (k : Int)).1) 16 ((at_ L38 (0, 0) (k : Int)).2) (by omega) (by omega)) ?_
        rintro e87 w87 ⟨Q87, cq87, he87, ho87, t87, hb87⟩; refine ⟨_, he87, ?_⟩; intro a87 u87 z87
        have f62_89 := (ArenaAt.turn (ArenaAt.keep f62_75 t72) t78 o74)
        have o88 := row_out (hb87) (fun kQ hQ => ArenaAt.lt f62_89 hQ)
        have no90 := row_no (hb87) (lt_of t78.here)
        have x92 := (Touch.turn (Touch.trans x77 (Ext.touch t72)) t78 (Or.inr yb72_76))
        have no91 := row_base (hb87) (Touch.size x92)
        have f62_94 := (ArenaAt.keep f62_89 t87)
        refine sc z87 rfl rfl (exl_call Try.func56 rfl rfl (cons_ops ((u87.past 40 rfl).trans ((u86.past 40 rfl).trans ((u85.past 40 rfl).trans ((u84.past 40 rfl).trans ((u83.past 40 rfl).trans ((u82.past 40 rfl).trans ((u81.past 40 rfl).trans (u80.here _ rfl)))))))) (cons_ops (u87.here _ rfl) nil_ops))) (c_Cube (litL_len _ _ _ _).symm f62_94 hwf hroom hm2 ho87 (litL_cubic _ (by omega) (by omega)) (by rw [litL_len]; omega) o88) ?_
        rintro e93 w93 ⟨Fp93, A93, r93, c93, he93, H93, m93, R93, back93, more93⟩; refine ⟨_, he93, ?_⟩; intro a93 u93 z93
        have ho38_95 := (own_keep (own_touch (own_keep ho38_69 t72) t78.touch (fun jQ hQ eQ => no73 jQ hQ eQ)) t87)
        have o96 := fun jQ hQ => Mut.out m93 (own_lt ho38_95 hQ) (hout1 jQ hQ)
        have t78.here_97 := (Ext.keep t87 t78.here)
        have o98 := Mut.out m93 (lt_of t78.here_97) o74
        have o99 := fun jQ hQ => Mut.out m93 (own_lt ho87 hQ) (o88 jQ hQ)
        have x100 := (Touch.trans x92 (Ext.touch t87))
        have i101 := Mut.inF m93 x100 hin
        refine sp z93 rfl rfl (ex_move (u93.here _ rfl)) ?_; intro a102 u102 z102
        refine sp z102 rfl rfl (ex_extract (u102.here _ rfl) rfl) ?_; intro a103 u103 z103
        refine sp z103 rfl rfl (ex_extract ((u103.past 39 rfl).trans (u102.here _ rfl)) rfl) ?_; intro a104 u104 z104
        refine sp z104 rfl rfl (ex_assign ((u104.past 49 rfl).trans (u103.here _ rfl))) ?_; intro a105 u105 z105
        refine sp z105 rfl rfl (ex_assign ((u105.past 50 rfl).trans (u104.here _ rfl))) ?_; intro a106 u106 z106
        have d107 := (u106.defs.trans (u105.defs.trans (u104.defs.trans (u103.defs.trans (u102.defs.trans (u93.defs.trans (u87.defs.trans (u86.defs.trans (u85.defs.trans (u84.defs.trans (u83.defs.trans (u82.defs.trans (u81.defs.trans (u80.defs.trans d79))))))))))))))
        refine seq_end ?_
        refine then_norm ?_
        refine wp_seq_k fun K108 hK108 => ?_
        have s109_13 : a106.eval (.tmp 13) = .int .i64 c93 := (u106.here _ rfl)
        refine rgs mixed 68 [.eq (.int .i64 c93), .eq (.bool (decide (c93 = 0)))] [[(13, none)], [(51, some 0)]] d107 z106 (by kernel_rfl) ⟨Ov rfl rfl fun _ _ T ⟨k13, _⟩ => ex_move (k13.trans s109_13), Ov rfl rfl fun _ _ T ⟨k51, _⟩ => ex_eql k51 rfl, trivial⟩ ?_
        intro a110 w110 d110 z110 t110 e110 q110
        by_cases c111 : c93 = 0
        · have y111 := decide_eq_true c111
          have s112_52 : a110.eval (.tmp 52) = .bool (decide (c93 = 0)) := e110.2.1
          refine wp_cond_true (s112_52.trans (by rw [y111])) ?_
          have cg := R93.ok.elim (fun hQ => hQ.2) (fun hQ => absurd hQ (by have := c111; omega))
          refine seq_begin ?_
          refine sp z110 rfl rfl (ex_move ((q110 0 rfl).trans ((u106.past 0 rfl).trans ((u105.past 0 rfl).trans ((u104.past 0 rfl).trans ((u103.past 0 rfl).trans ((u102.past 0 rfl).trans ((u93.past 0 rfl).trans ((u87.past 0 rfl).trans ((u86.past 0 rfl).trans ((u85.past 0 rfl).trans ((u84.past 0 rfl).trans ((u83.past 0 rfl).trans ((u82.past 0 rfl).trans ((u81.past 0 rfl).trans ((u80.past 0 rfl).trans ((u78.past 0 rfl).trans ((u72.past 0 rfl).trans ((u71.past 0 rfl).trans ((u70.past 0 rfl).trans ((q63 0 rfl).trans s48_0))))))))))))))))))))) ?_; intro a113 u113 z113
          refine sp z113 rfl rfl (ex_move ((u113.past 9 rfl).trans ((q110 9 rfl).trans ((u106.past 9 rfl).trans ((u105.past 9 rfl).trans ((u104.past 9 rfl).trans ((u103.past 9 rfl).trans ((u102.past 9 rfl).trans ((u93.past 9 rfl).trans ((u87.past 9 rfl).trans ((u86.past 9 rfl).trans ((u85.past 9 rfl).trans ((u84.past 9 rfl).trans ((u83.past 9 rfl).trans ((u82.past 9 rfl).trans ((u81.past 9 rfl).trans ((u80.past 9 rfl).trans ((u78.past 9 rfl).trans ((u72.past 9 rfl).trans ((u71.past 9 rfl).trans ((u70.past 9 rfl).trans ((q63 9 rfl).trans s48_9)))))))))))))))))))))) ?_; intro a114 u114 z114
          refine sp z114 rfl rfl (ex_move ((u114.past 12 rfl).trans ((u113.past 12 rfl).trans ((q110 12 rfl).trans ((u106.past 12 rfl).trans (u105.here _ rfl)))))) ?_; intro a115 u115 z115
          have H93_117 := (ArenaAt.keep H93 t110)
          refine sc z115 rfl rfl (exl_call Try.func68 rfl rfl (cons_ops ((u115.past 54 rfl).trans ((u114.past 54 rfl).trans (u113.here _ rfl))) (cons_ops rfl (cons_ops ((u115.past 55 rfl).trans (u114.here _ rfl)) (cons_ops (u115.here _ rfl) nil_ops))))) (c_Join H93_117 R93.wf R93.room hm2 1 r r93 (by omega) (ok_pre R93.pre hok) cg.1) ?_
          rintro e116 w116 ⟨Fp116, A116, r116, c116, he116, H116, m116, R116, back116⟩; refine ⟨_, he116, ?_⟩; intro a116 u116 z116
          have ho38_118 := (own_keep (Mut.own m93 ho38_95 hout1) t110)
          have o119 := fun jQ hQ => Mut.out m116 (own_lt ho38_118 hQ) (o96 jQ hQ)
          have t78.here_120 := (Ext.keep t110 (Mut.keep m93 t78.here_97 o74))
          have o121 := Mut.out m116 (lt_of t78.here_120) o98
          have ho87_122 := (own_keep (Mut.own m93 ho87 o88) t110)
          have o123 := fun jQ hQ => Mut.out m116 (own_lt ho87_122 hQ) (o99 jQ hQ)
          have x124 := (Touch.trans (Touch.mut x100 m93 hin) (Ext.touch t110))
          have i125 := Mut.inF m116 x124 i101
          refine sp z116 rfl rfl (ex_move (u116.here _ rfl)) ?_; intro a126 u126 z126
          refine sp z126 rfl rfl (ex_extract (u126.here _ rfl) rfl) ?_; intro a127 u127 z127
          refine sp z127 rfl rfl (ex_extract ((u127.past 53 rfl).trans (u126.here _ rfl)) rfl) ?_; intro a128 u128 z128
          refine sp z128 rfl rfl (ex_assign ((u128.past 58 rfl).trans (u127.here _ rfl))) ?_; intro a129 u129 z129
          refine sp z129 rfl rfl (ex_assign ((u129.past 59 rfl).trans (u128.here _ rfl))) ?_; intro a130 u130 z130
          have d131 := (u130.defs.trans (u129.defs.trans (u128.defs.trans (u127.defs.trans (u126.defs.trans (u116.defs.trans (u115.defs.trans (u114.defs.trans (u113.defs.trans d110)))))))))
          refine seq_end ?_
          repeat (with_reducible refine block_norm ?_)
          refine hK108 _ _ ?_
          have s132_13 : a130.eval (.tmp 13) = .int .i64 c116 := (u130.here _ rfl)
          refine rgs mixed 68 [.eq (.int .i64 c116), .eq (.bool (decide (c116 ≠ 0)))] [[(13, none)], [(60, some 0)]] d131 z130 (by kernel_rfl) ⟨Ov rfl rfl fun _ _ T ⟨k13, _⟩ => ex_move (k13.trans s132_13), Ov rfl rfl fun _ _ T ⟨k60, _⟩ => ex_neq k60 rfl, trivial⟩ ?_
          intro a133 w133 d133 z133 t133 e133 q133
          by_cases c134 : c116 ≠ 0
          · have y134 := decide_eq_true c134
            have s135_61 : a133.eval (.tmp 61) = .bool (decide (c116 ≠ 0)) := e133.2.1
            refine wp_cond_true (s135_61.trans (by rw [y134])) ?_
            have lenm := R116.wf.len; have roomm := R116.room
            refine wp_seq ?_
            refine seq_begin ?_
            refine sp z133 rfl rfl (ex_move ((q133 0 rfl).trans ((u130.past 0 rfl).trans ((u129.past 0 rfl).trans ((u128.past 0 rfl).trans ((u127.past 0 rfl).trans ((u126.past 0 rfl).trans ((u116.past 0 rfl).trans ((u115.past 0 rfl).trans ((u114.past 0 rfl).trans ((u113.past 0 rfl).trans ((q110 0 rfl).trans ((u106.past 0 rfl).trans ((u105.past 0 rfl).trans ((u104.past 0 rfl).trans ((u103.past 0 rfl).trans ((u102.past 0 rfl).trans ((u93.past 0 rfl).trans ((u87.past 0 rfl).trans ((u86.past 0 rfl).trans ((u85.past 0 rfl).trans ((u84.past 0 rfl).trans ((u83.past 0 rfl).trans ((u82.past 0 rfl).trans ((u81.past 0 rfl).trans ((u80.past 0 rfl).trans ((u78.past 0 rfl).trans ((u72.past 0 rfl).trans ((u71.past 0 rfl).trans ((u70.past 0 rfl).trans ((q63 0 rfl).trans s48_0))))))))))))))))))))))))))))))) ?_; intro a136 u136 z136
            refine sp z136 rfl rfl (ex_move ((u136.past 8 rfl).trans ((q133 8 rfl).trans ((u130.past 8 rfl).trans ((u129.past 8 rfl).trans ((u128.past 8 rfl).trans ((u127.past 8 rfl).trans ((u126.past 8 rfl).trans ((u116.past 8 rfl).trans ((u115.past 8 rfl).trans ((u114.past 8 rfl).trans ((u113.past 8 rfl).trans ((q110 8 rfl).trans ((u106.past 8 rfl).trans ((u105.past 8 rfl).trans ((u104.past 8 rfl).trans ((u103.past 8 rfl).trans ((u102.past 8 rfl).trans ((u93.past 8 rfl).trans ((u87.past 8 rfl).trans ((u86.past 8 rfl).trans ((u85.past 8 rfl).trans ((u84.past 8 rfl).trans ((u83.past 8 rfl).trans ((u82.past 8 rfl).trans ((u81.past 8 rfl).trans ((u80.past 8 rfl).trans ((u78.past 8 rfl).trans ((u72.past 8 rfl).trans ((u71.past 8 rfl).trans ((u70.past 8 rfl).trans ((q63 8 rfl).trans s48_8)))))))))))))))))))))))))))))))) ?_; intro a137 u137 z137
            have H116_139 := (ArenaAt.keep H116 t133)
            refine sc z137 rfl rfl (exl_call Try.func101 rfl rfl (cons_ops ((u137.past 62 rfl).trans (u136.here _ rfl)) (cons_ops (u137.here _ rfl) nil_ops))) (c_cut H116_139 (A.length : Int) (by omega) (by omega) R116.wf.nodup) ?_
            rintro e138 w138 ⟨he138, H138, m138⟩; refine ⟨_, he138, ?_⟩; intro a138 u138 z138
            have ho38_140 := (own_keep (Mut.own m116 ho38_118 o96) t133)
            have o141 := fun jQ hQ => Mut.out m138 (own_lt ho38_140 hQ) (o119 jQ hQ)
            have t78.here_142 := (Ext.keep t133 (Mut.keep m116 t78.here_120 o98))
            have o143 := Mut.out m138 (lt_of t78.here_142) o121
            have ho87_144 := (own_keep (Mut.own m116 ho87_122 o99) t133)
            have o145 := fun jQ hQ => Mut.out m138 (own_lt ho87_144 hQ) (o123 jQ hQ)
            have x146 := (Touch.trans (Touch.mut x124 m116 i101) (Ext.touch t133))
            have i147 := Mut.inF m138 x146 i125
            have d148 := (u138.defs.trans (u137.defs.trans (u136.defs.trans d133)))
            refine seq_end ?_
            refine then_norm ?_
            have s149_13 := ((u138.past 13 rfl).trans ((u137.past 13 rfl).trans ((u136.past 13 rfl).trans ((q133 13 rfl).trans s132_13))))
            refine rgs mixed 68 [.eq (.int .i64 c116), .eq (.int .i64 0), .eq (.int .i64 c116)] [[(13, none)], [], [(65, some 0)]] d148 z138 (by kernel_rfl) ⟨Ov rfl rfl fun _ _ T ⟨k13, _⟩ => ex_move (k13.trans s149_13), Ov rfl rfl fun _ _ T _ => ex_assign rfl, Ov rfl rfl fun _ _ T ⟨k65, _⟩ => ex_assign k65, trivial⟩ ?_
            intro a150 w150 d150 z150 t150 e150 q150
            refine wp_ret ?_
            have s151_6 : a150.eval (.tmp 6) = .int .i64 0 := e150.2.1
            have s152_7 : a150.eval (.tmp 7) = .int .i64 c116 := e150.2.2.1
            repeat (first | (with_reducible refine then_ret ?_) | (with_reducible refine block_ret ?_))
            refine rett (rs := [.tmp 6, .tmp 7]) (vs := [.int .i64 0, .int .i64 c116]) Try.results59 ⟨s151_6, ⟨s152_7, trivial⟩⟩ (by simp) d150 ?_
            have et := take_pre ((hpre.trans R93.pre).trans R116.pre) hl2 (n := (A.length : Int)) rfl
            have H138_153 := (ArenaAt.keep H138 t150)
            have HH := H138_153
            rw [et] at HH
            have x154 := (Touch.trans (Touch.mut x146 m138 i147) (Ext.touch t150))
            have hc := R116.ok.elim (fun hQ => absurd hQ.1 c134) (fun hQ => hQ)
            exact ⟨_, _, _, _, rfl, HH, ⟨x154, i147⟩, ⟨hW, List.prefix_refl _, hm, .inr hc⟩, fun _ => ⟨rfl, rfl⟩⟩
          · have y134 := decide_eq_false c134
            have s155_61 : a133.eval (.tmp 61) = .bool (decide (c116 ≠ 0)) := e133.2.1
            refine wp_cond_false (s155_61.trans (by rw [y134])) ?_
            refine wp_skip ?_
            repeat (with_reducible refine block_norm ?_)
            refine hK67 _ _ ?_
            have s156_35 := ((q133 35 rfl).trans ((u130.past 35 rfl).trans ((u129.past 35 rfl).trans ((u128.past 35 rfl).trans ((u127.past 35 rfl).trans ((u126.past 35 rfl).trans ((u116.past 35 rfl).trans ((u115.past 35 rfl).trans ((u114.past 35 rfl).trans ((u113.past 35 rfl).trans ((q110 35 rfl).trans ((u106.past 35 rfl).trans ((u105.past 35 rfl).trans ((u104.past 35 rfl).trans ((u103.past 35 rfl).trans ((u102.past 35 rfl).trans ((u93.past 35 rfl).trans ((u87.past 35 rfl).trans ((u86.past 35 rfl).trans ((u85.past 35 rfl).trans ((u84.past 35 rfl).trans ((u83.past 35 rfl).trans ((u82.past 35 rfl).trans ((u81.past 35 rfl).trans ((u80.past 35 rfl).trans ((u78.past 35 rfl).trans ((u72.past 35 rfl).trans ((u71.past 35 rfl).trans ((u70.past 35 rfl).trans ((q63 35 rfl).trans s48_35))))))))))))))))))))))))))))))
            refine rg mixed 68 [.eq (.int .i64 ((k : Int) + 1)), .eq (.int .i64 ((k : Int) + 1))] [[(35, none)], [(66, some 0)]] d133 z133 (by kernel_rfl) ⟨Ov rfl rfl fun _ _ T ⟨k35, _⟩ => ex_add64 (k35.trans s156_35) rfl (by omega), Ov rfl rfl fun _ _ T ⟨k66, _⟩ => ex_move k66, trivial⟩ ?_
            intro a157 w157 d157 z157 t157 e157 q157
            repeat (with_reducible refine block_norm ?_)
            have good := R116.ok.elim (fun hQ => hQ.2) (fun hQ => absurd hQ (by have := c134; omega))
            have gA := cg.2
            have s158_0 := ((q157 0 rfl).trans ((q133 0 rfl).trans ((u130.past 0 rfl).trans ((u129.past 0 rfl).trans ((u128.past 0 rfl).trans ((u127.past 0 rfl).trans ((u126.past 0 rfl).trans ((u116.past 0 rfl).trans ((u115.past 0 rfl).trans ((u114.past 0 rfl).trans ((u113.past 0 rfl).trans ((q110 0 rfl).trans ((u106.past 0 rfl).trans ((u105.past 0 rfl).trans ((u104.past 0 rfl).trans ((u103.past 0 rfl).trans ((u102.past 0 rfl).trans ((u93.past 0 rfl).trans ((u87.past 0 rfl).trans ((u86.past 0 rfl).trans ((u85.past 0 rfl).trans ((u84.past 0 rfl).trans ((u83.past 0 rfl).trans ((u82.past 0 rfl).trans ((u81.past 0 rfl).trans ((u80.past 0 rfl).trans ((u78.past 0 rfl).trans ((u72.past 0 rfl).trans ((u71.past 0 rfl).trans ((u70.past 0 rfl).trans ((q63 0 rfl).trans s48_0)))))))))))))))))))))))))))))))
            have s159_1 := ((q157 1 rfl).trans ((q133 1 rfl).trans ((u130.past 1 rfl).trans ((u129.past 1 rfl).trans ((u128.past 1 rfl).trans ((u127.past 1 rfl).trans ((u126.past 1 rfl).trans ((u116.past 1 rfl).trans ((u115.past 1 rfl).trans ((u114.past 1 rfl).trans ((u113.past 1 rfl).trans ((q110 1 rfl).trans ((u106.past 1 rfl).trans ((u105.past 1 rfl).trans ((u104.past 1 rfl).trans ((u103.past 1 rfl).trans ((u102.past 1 rfl).trans ((u93.past 1 rfl).trans ((u87.past 1 rfl).trans ((u86.past 1 rfl).trans ((u85.past 1 rfl).trans ((u84.past 1 rfl).trans ((u83.past 1 rfl).trans ((u82.past 1 rfl).trans ((u81.past 1 rfl).trans ((u80.past 1 rfl).trans ((u78.past 1 rfl).trans ((u72.past 1 rfl).trans ((u71.past 1 rfl).trans ((u70.past 1 rfl).trans ((q63 1 rfl).trans s48_1)))))))))))))))))))))))))))))))
            have s160_8 := ((q157 8 rfl).trans ((q133 8 rfl).trans ((u130.past 8 rfl).trans ((u129.past 8 rfl).trans ((u128.past 8 rfl).trans ((u127.past 8 rfl).trans ((u126.past 8 rfl).trans ((u116.past 8 rfl).trans ((u115.past 8 rfl).trans ((u114.past 8 rfl).trans ((u113.past 8 rfl).trans ((q110 8 rfl).trans ((u106.past 8 rfl).trans ((u105.past 8 rfl).trans ((u104.past 8 rfl).trans ((u103.past 8 rfl).trans ((u102.past 8 rfl).trans ((u93.past 8 rfl).trans ((u87.past 8 rfl).trans ((u86.past 8 rfl).trans ((u85.past 8 rfl).trans ((u84.past 8 rfl).trans ((u83.past 8 rfl).trans ((u82.past 8 rfl).trans ((u81.past 8 rfl).trans ((u80.past 8 rfl).trans ((u78.past 8 rfl).trans ((u72.past 8 rfl).trans ((u71.past 8 rfl).trans ((u70.past 8 rfl).trans ((q63 8 rfl).trans s48_8)))))))))))))))))))))))))))))))
            have s161_9 : a129.eval (.tmp 9) = .int .i64 r116 := (u129.here _ rfl)
            have s162_9 := ((q157 9 rfl).trans ((q133 9 rfl).trans ((u130.past 9 rfl).trans s161_9)))
            have s163_33 := ((q157 33 rfl).trans ((q133 33 rfl).trans ((u130.past 33 rfl).trans ((u129.past 33 rfl).trans ((u128.past 33 rfl).trans ((u127.past 33 rfl).trans ((u126.past 33 rfl).trans ((u116.past 33 rfl).trans ((u115.past 33 rfl).trans ((u114.past 33 rfl).trans ((u113.past 33 rfl).trans ((q110 33 rfl).trans ((u106.past 33 rfl).trans ((u105.past 33 rfl).trans ((u104.past 33 rfl).trans ((u103.past 33 rfl).trans ((u102.past 33 rfl).trans ((u93.past 33 rfl).trans ((u87.past 33 rfl).trans ((u86.past 33 rfl).trans ((u85.past 33 rfl).trans ((u84.past 33 rfl).trans ((u83.past 33 rfl).trans ((u82.past 33 rfl).trans ((u81.past 33 rfl).trans ((u80.past 33 rfl).trans ((u78.past 33 rfl).trans ((u72.past 33 rfl).trans ((u71.past 33 rfl).trans ((u70.past 33 rfl).trans ((q63 33 rfl).trans s48_33)))))))))))))))))))))))))))))))
            have s164_34 := ((q157 34 rfl).trans ((q133 34 rfl).trans ((u130.past 34 rfl).trans ((u129.past 34 rfl).trans ((u128.past 34 rfl).trans ((u127.past 34 rfl).trans ((u126.past 34 rfl).trans ((u116.past 34 rfl).trans ((u115.past 34 rfl).trans ((u114.past 34 rfl).trans ((u113.past 34 rfl).trans ((q110 34 rfl).trans ((u106.past 34 rfl).trans ((u105.past 34 rfl).trans ((u104.past 34 rfl).trans ((u103.past 34 rfl).trans ((u102.past 34 rfl).trans ((u93.past 34 rfl).trans ((u87.past 34 rfl).trans ((u86.past 34 rfl).trans ((u85.past 34 rfl).trans ((u84.past 34 rfl).trans ((u83.past 34 rfl).trans ((u82.past 34 rfl).trans ((u81.past 34 rfl).trans ((u80.past 34 rfl).trans ((u78.past 34 rfl).trans ((u72.past 34 rfl).trans ((u71.past 34 rfl).trans ((u70.past 34 rfl).trans ((q63 34 rfl).trans s48_34)))))))))))))))))))))))))))))))
            have s165_35 : a157.eval (.tmp 35) = .int .i64 ((k : Int) + 1) := e157.2.1
            have x166 := (Touch.trans (Touch.trans (Touch.mut x124 m116 i101) (Ext.touch t133)) (Ext.touch t157))
            have ho38_167 := (own_keep (own_keep (Mut.own m116 ho38_118 o96) t133) t157)
            have H116_168 := (ArenaAt.keep (ArenaAt.keep H116 t133) t157)
            refine then_norm ?_
            refine ⟨_, ⟨k + 1, _, Fp116, r116, rfl, d157, z157, s158_0, s159_1, s160_8, s162_9, s163_33, s164_34, (s165_35.trans (by first | rfl | (congr 1; omega) | (simp; omega) | simp)), x166, ho38_167, H116_168, by omega, R116.wf, ((hpre.trans R93.pre).trans R116.pre), R116.room, good.1, (fun v => by rw [good.2.1 v, den_pre R93.pre hwf R93.wf v r hok, hden v, gA v, any_take (d := (0, 0)) hk2]; rfl), i125, o119⟩, ?_⟩; (show _ < _); rw [hmu48]; exact by omega
        · have y111 := decide_eq_false c111
          have s169_52 : a110.eval (.tmp 52) = .bool (decide (c93 = 0)) := e110.2.1
          refine wp_cond_false (s169_52.trans (by rw [y111])) ?_
          refine wp_skip ?_
          repeat (with_reducible refine block_norm ?_)
          refine hK108 _ _ ?_
          have s170_13 := ((q110 13 rfl).trans s109_13)
          refine rgs mixed 68 [.eq (.int .i64 c93), .eq (.bool (decide (c93 ≠ 0)))] [[(13, none)], [(60, some 0)]] d110 z110 (by kernel_rfl) ⟨Ov rfl rfl fun _ _ T ⟨k13, _⟩ => ex_move (k13.trans s170_13), Ov rfl rfl fun _ _ T ⟨k60, _⟩ => ex_neq k60 rfl, trivial⟩ ?_
          intro a171 w171 d171 z171 t171 e171 q171
          by_cases c172 : c93 ≠ 0
          · have y172 := decide_eq_true c172
            have s173_61 : a171.eval (.tmp 61) = .bool (decide (c93 ≠ 0)) := e171.2.1
            refine wp_cond_true (s173_61.trans (by rw [y172])) ?_
            have lenm := R93.wf.len; have roomm := R93.room
            refine wp_seq ?_
            refine seq_begin ?_
            refine sp z171 rfl rfl (ex_move ((q171 0 rfl).trans ((q110 0 rfl).trans ((u106.past 0 rfl).trans ((u105.past 0 rfl).trans ((u104.past 0 rfl).trans ((u103.past 0 rfl).trans ((u102.past 0 rfl).trans ((u93.past 0 rfl).trans ((u87.past 0 rfl).trans ((u86.past 0 rfl).trans ((u85.past 0 rfl).trans ((u84.past 0 rfl).trans ((u83.past 0 rfl).trans ((u82.past 0 rfl).trans ((u81.past 0 rfl).trans ((u80.past 0 rfl).trans ((u78.past 0 rfl).trans ((u72.past 0 rfl).trans ((u71.past 0 rfl).trans ((u70.past 0 rfl).trans ((q63 0 rfl).trans s48_0)))))))))))))))))))))) ?_; intro a174 u174 z174
            refine sp z174 rfl rfl (ex_move ((u174.past 8 rfl).trans ((q171 8 rfl).trans ((q110 8 rfl).trans ((u106.past 8 rfl).trans ((u105.past 8 rfl).trans ((u104.past 8 rfl).trans ((u103.past 8 rfl).trans ((u102.past 8 rfl).trans ((u93.past 8 rfl).trans ((u87.past 8 rfl).trans ((u86.past 8 rfl).trans ((u85.past 8 rfl).trans ((u84.past 8 rfl).trans ((u83.past 8 rfl).trans ((u82.past 8 rfl).trans ((u81.past 8 rfl).trans ((u80.past 8 rfl).trans ((u78.past 8 rfl).trans ((u72.past 8 rfl).trans ((u71.past 8 rfl).trans ((u70.past 8 rfl).trans ((q63 8 rfl).trans s48_8))))))))))))))))))))))) ?_; intro a175 u175 z175
            have H93_177 := (ArenaAt.keep (ArenaAt.keep H93 t110) t171)
            refine sc z175 rfl rfl (exl_call Try.func101 rfl rfl (cons_ops ((u175.past 62 rfl).trans (u174.here _ rfl)) (cons_ops (u175.here _ rfl) nil_ops))) (c_cut H93_177 (A.length : Int) (by omega) (by omega) R93.wf.nodup) ?_
            rintro e176 w176 ⟨he176, H176, m176⟩; refine ⟨_, he176, ?_⟩; intro a176 u176 z176
            have ho38_178 := (own_keep (own_keep (Mut.own m93 ho38_95 hout1) t110) t171)
            have o179 := fun jQ hQ => Mut.out m176 (own_lt ho38_178 hQ) (o96 jQ hQ)
            have t78.here_180 := (Ext.keep t171 (Ext.keep t110 (Mut.keep m93 t78.here_97 o74)))
            have o181 := Mut.out m176 (lt_of t78.here_180) o98
            have ho87_182 := (own_keep (own_keep (Mut.own m93 ho87 o88) t110) t171)
            have o183 := fun jQ hQ => Mut.out m176 (own_lt ho87_182 hQ) (o99 jQ hQ)
            have x184 := (Touch.trans (Touch.trans (Touch.mut x100 m93 hin) (Ext.touch t110)) (Ext.touch t171))
            have i185 := Mut.inF m176 x184 i101
            have d186 := (u176.defs.trans (u175.defs.trans (u174.defs.trans d171)))
            refine seq_end ?_
            refine then_norm ?_
            have s187_13 := ((u176.past 13 rfl).trans ((u175.past 13 rfl).trans ((u174.past 13 rfl).trans ((q171 13 rfl).trans s170_13))))
            refine rgs mixed 68 [.eq (.int .i64 c93), .eq (.int .i64 0), .eq (.int .i64 c93)] [[(13, none)], [], [(65, some 0)]] d186 z176 (by kernel_rfl) ⟨Ov rfl rfl fun _ _ T ⟨k13, _⟩ => ex_move (k13.trans s187_13), Ov rfl rfl fun _ _ T _ => ex_assign rfl, Ov rfl rfl fun _ _ T ⟨k65, _⟩ => ex_assign k65, trivial⟩ ?_
            intro a188 w188 d188 z188 t188 e188 q188
            refine wp_ret ?_
            have s189_6 : a188.eval (.tmp 6) = .int .i64 0 := e188.2.1
            have s190_7 : a188.eval (.tmp 7) = .int .i64 c93 := e188.2.2.1
            repeat (first | (with_reducible refine then_ret ?_) | (with_reducible refine block_ret ?_))
            refine rett (rs := [.tmp 6, .tmp 7]) (vs := [.int .i64 0, .int .i64 c93]) Try.results59 ⟨s189_6, ⟨s190_7, trivial⟩⟩ (by simp) d188 ?_
            have et := take_pre (hpre.trans R93.pre) hl2 (n := (A.length : Int)) rfl
            have H176_191 := (ArenaAt.keep H176 t188)
            have HH := H176_191
            rw [et] at HH
            have x192 := (Touch.trans (Touch.mut x184 m176 i185) (Ext.touch t188))
            have hc := R93.ok.elim (fun hQ => absurd hQ.1 c172) (fun hQ => hQ)
            exact ⟨_, _, _, _, rfl, HH, ⟨x192, i185⟩, ⟨hW, List.prefix_refl _, hm, .inr hc⟩, fun _ => ⟨rfl, rfl⟩⟩
          · have y172 := decide_eq_false c172
            have s193_61 : a171.eval (.tmp 61) = .bool (decide (c93 ≠ 0)) := e171.2.1
            refine wp_cond_false (s193_61.trans (by rw [y172])) ?_
            refine wp_skip ?_
            repeat (with_reducible refine block_norm ?_)
            refine hK67 _ _ ?_
            have s194_35 := ((q171 35 rfl).trans ((q110 35 rfl).trans ((u106.past 35 rfl).trans ((u105.past 35 rfl).trans ((u104.past 35 rfl).trans ((u103.past 35 rfl).trans ((u102.past 35 rfl).trans ((u93.past 35 rfl).trans ((u87.past 35 rfl).trans ((u86.past 35 rfl).trans ((u85.past 35 rfl).trans ((u84.past 35 rfl).trans ((u83.past 35 rfl).trans ((u82.past 35 rfl).trans ((u81.past 35 rfl).trans ((u80.past 35 rfl).trans ((u78.past 35 rfl).trans ((u72.past 35 rfl).trans ((u71.past 35 rfl).trans ((u70.past 35 rfl).trans ((q63 35 rfl).trans s48_35)))))))))))))))))))))
            refine rg mixed 68 [.eq (.int .i64 ((k : Int) + 1)), .eq (.int .i64 ((k : Int) + 1))] [[(35, none)], [(66, some 0)]] d171 z171 (by kernel_rfl) ⟨Ov rfl rfl fun _ _ T ⟨k35, _⟩ => ex_add64 (k35.trans s194_35) rfl (by omega), Ov rfl rfl fun _ _ T ⟨k66, _⟩ => ex_move k66, trivial⟩ ?_
            intro a195 w195 d195 z195 t195 e195 q195
            repeat (with_reducible refine block_norm ?_)
            exfalso; omega
      · have y65 := decide_eq_false c65
        have s196_36 : a63.eval (.tmp 36) = .bool (decide ((k : Int) < (L38.length : Int))) := e63.1
        refine wp_cond_false (s196_36.trans (by rw [y65])) ?_
        refine wp_exit ?_
        repeat (first | (with_reducible refine then_exit ?_) | (with_reducible refine block_here ?_) | (with_reducible refine block_past rfl ?_))
        refine hK35 _ _ ?_
        have s197_9 := ((q63 9 rfl).trans s48_9)
        refine rgs mixed 68 [.eq (.int .i64 r), .eq (.int .i64 r), .eq (.int .i64 0)] [[(9, none)], [(67, some 0)], []] d63 z63 (by kernel_rfl) ⟨Ov rfl rfl fun _ _ T ⟨k9, _⟩ => ex_move (k9.trans s197_9), Ov rfl rfl fun _ _ T ⟨k67, _⟩ => ex_assign k67, Ov rfl rfl fun _ _ T _ => ex_assign rfl, trivial⟩ ?_
        intro a198 w198 d198 z198 t198 e198 q198
        refine wp_ret ?_
        have s199_6 : a198.eval (.tmp 6) = .int .i64 r := e198.2.1
        have s200_7 : a198.eval (.tmp 7) = .int .i64 0 := e198.2.2.1
        repeat (first | (with_reducible refine then_ret ?_) | (with_reducible refine block_ret ?_))
        refine rett (rs := [.tmp 6, .tmp 7]) (vs := [.int .i64 r, .int .i64 0]) Try.results59 ⟨s199_6, ⟨s200_7, trivial⟩⟩ (by simp) d198 ?_
        have hkk : k = L38.length := by omega
        subst hkk
        have f62_201 := (ArenaAt.keep (ArenaAt.keep f62 t63) t198)
        have x202 := (Touch.trans (Touch.trans x48 (Ext.touch t63)) (Ext.touch t198))
        exact ⟨_, _, _, _, rfl, f62_201, ⟨x202, hin⟩, ⟨hwf, hpre, hroom, .inl ⟨rfl, hok, L38, B38, fun v => by rw [hden v, List.take_length]⟩⟩, fun hQ => absurd rfl hQ⟩

end Go.Proofs.Yticodddigaiipaa
