/-
  Contracts of functions of the given program, each proved by a walk through its code: what a call answers, and what it leaves of memory; conditions: those ahead of each theorem's colon.
-/
import Derived.Test.YticodddigaiipaaT7
set_option linter.unusedVariables false
set_option linter.unusedSimpArgs false
namespace Go.Proofs.Yticodddigaiipaa
open Go.RowKit
theorem bs_186_5_0F53PPE_1F54PPE_2F55PPE_3F58PPE_4F60PPE (x0 : Addr) (x1 : Addr) (x2 : Addr) (x3 : Addr) (x4 : Addr) (x5 : Addr) (x6 : Addr) (x7 : Addr) (x8 : Addr) (x9 : Addr) (w : World) : (Instr.buildSlice 186 5 #[(0, .func (.func 53) #[] #[.pointer (some x0), .pointer (some x1)]), (1, .func (.func 54) #[] #[.pointer (some x2), .pointer (some x3)]), (2, .func (.func 55) #[] #[.pointer (some x4), .pointer (some x5)]), (3, .func (.func 58) #[] #[.pointer (some x6), .pointer (some x7)]), (4, .func (.func 60) #[] #[.pointer (some x8), .pointer (some x9)])]).run Try.prog w = .ok (.slice (some ⟨w.heap.size, 0, none⟩) 5 5) (w.alloc (.cells #[.func (.func 53) #[] #[.pointer (some x0), .pointer (some x1)], .func (.func 54) #[] #[.pointer (some x2), .pointer (some x3)], .func (.func 55) #[] #[.pointer (some x4), .pointer (some x5)], .func (.func 58) #[] #[.pointer (some x6), .pointer (some x7)], .func (.func 60) #[] #[.pointer (some x8), .pointer (some x9)]] 126)) := by kernel_rfl

def filtD (fda fdb fsa fsb fp fsl fsh fdl fdh : Int) (v : Int → Bool) : Bool := cubeD (litL 0 fda 32 fdb.toNat) v && (cubeD (litL 32 fsa 32 fsb.toNat) v && ((if fp = -1 then true else cubeD (litL 64 fp 8 8) v) && (decide (fsl ≤ numB 72 v 16 ∧ numB 72 v 16 ≤ fsh) && decide (fdl ≤ numB 88 v 16 ∧ numB 88 v 16 ≤ fdh))))
def filtCls (b2 b3 : Nat) (fda fdb fsa fsb fp fsl fsh fdl fdh : Int) : List Cl := [
  ⟨53, [.pointer (some ⟨b2, 0, none⟩), .pointer (some ⟨b3, 0, none⟩)], fun v => cubeD (litL 0 fda 32 fdb.toNat) v⟩,
  ⟨54, [.pointer (some ⟨b2, 0, none⟩), .pointer (some ⟨b3, 0, none⟩)], fun v => cubeD (litL 32 fsa 32 fsb.toNat) v⟩,
  ⟨55, [.pointer (some ⟨b3, 0, none⟩), .pointer (some ⟨b2, 0, none⟩)], fun v => if fp = -1 then true else cubeD (litL 64 fp 8 8) v⟩,
  ⟨58, [.pointer (some ⟨b2, 0, none⟩), .pointer (some ⟨b3, 0, none⟩)], fun v => decide (fsl ≤ numB 72 v 16 ∧ numB 72 v 16 ≤ fsh)⟩,
  ⟨60, [.pointer (some ⟨b2, 0, none⟩), .pointer (some ⟨b3, 0, none⟩)], fun v => decide (fdl ≤ numB 88 v 16 ∧ numB 88 v 16 ≤ fdh)⟩]
theorem filtCls_ok {w : World} {b : Nat} {Fp : Nat → Prop} {most : Int} (hm2 : most ≤ 262144) {b2 b3 : Nat} (fda fdb fsa fsb fp fsl fsh fdl fdh : Int) (hb2 : w.heap[b2]? = some (.cells #[.pointer (some ⟨b, 0, none⟩)] 34 (0, 0))) (hb3 : w.heap[b3]? = some (.cells #[.int .u32 fda, .int .i64 fdb, .int .u32 fsa, .int .i64 fsb, .int .i64 fp, .int .u16 fsl, .int .u16 fsh, .int .u16 fdl, .int .u16 fdh] 29 (0, 0))) (hck : fcheck fda fdb fsa fsb fp fsl fsh fdl fdh = 0) (hfdb : -4611686018427387904 ≤ fdb ∧ fdb ≤ 4611686018427387904) (hfsb : -4611686018427387904 ≤ fsb ∧ fsb ≤ 4611686018427387904) (hpr : 0 ≤ fsl ∧ fsh ≤ 65535 ∧ 0 ≤ fdl ∧ fdh ≤ 65535) (h2 : ¬ Fp b2) (h3 : ¬ Fp b3) :
    ∀ c ∈ filtCls b2 b3 fda fdb fsa fsb fp fsl fsh fdl fdh, ClOk w b Fp most c := by
  intro c hc
  simp only [filtCls, List.mem_cons, List.not_mem_nil, or_false] at hc
  rcases hc with rfl | rfl | rfl | rfl | rfl
  · exact ⟨⟨_, Try.func53, rfl, rfl⟩, fun w1 Fp1 A1 m H hW hm => c_F1 H hW hm hm2 fda fdb fsa fsb fp fsl fsh fdl fdh (m.keep hb2 h2) (m.keep hb3 h3) hck hfdb hfsb hpr⟩
  · exact ⟨⟨_, Try.func54, rfl, rfl⟩, fun w1 Fp1 A1 m H hW hm => c_F2 H hW hm hm2 fda fdb fsa fsb fp fsl fsh fdl fdh (m.keep hb2 h2) (m.keep hb3 h3) hck hfdb hfsb hpr⟩
  · exact ⟨⟨_, Try.func55, rfl, rfl⟩, fun w1 Fp1 A1 m H hW hm => c_F3 H hW hm hm2 fda fdb fsa fsb fp fsl fsh fdl fdh (m.keep hb2 h2) (m.keep hb3 h3) hck hfdb hfsb hpr⟩
  · refine ⟨⟨_, Try.func58, rfl, rfl⟩, fun w1 Fp1 A1 m H hW hm => Calls.mono (c_F4 H hW hm hm2 fda fdb fsa fsb fp fsl fsh fdl fdh (m.keep hb2 h2) (m.keep hb3 h3) hck hfdb hfsb hpr) ?_⟩
    rintro e w' ⟨Fp', A', r, c, he, h1, h2, h3, h4⟩
    exact ⟨Fp', A', r, c, he, h1, h2, h3.imp fun ⟨q1, L, q2, q3⟩ => ⟨q1, fun v => by rw [q3 v, blks_num q2]⟩, h4⟩
  · refine ⟨⟨_, Try.func60, rfl, rfl⟩, fun w1 Fp1 A1 m H hW hm => Calls.mono (c_F5 H hW hm hm2 fda fdb fsa fsb fp fsl fsh fdl fdh (m.keep hb2 h2) (m.keep hb3 h3) hck hfdb hfsb hpr) ?_⟩
    rintro e w' ⟨Fp', A', r, c, he, h1, h2, h3, h4⟩
    exact ⟨Fp', A', r, c, he, h1, h2, h3.imp fun ⟨q1, L, q2, q3⟩ => ⟨q1, fun v => by rw [q3 v, blks_num q2]⟩, h4⟩

set_option maxRecDepth 100000 in
set_option maxHeartbeats 4000000 in
theorem c_Filter {w : World} {b : Nat} {Fp : Nat → Prop} {A : List N3} {most : Int} (H : ArenaAt w b Fp A most) (hW : Wf A) (hm : (A.length : Int) ≤ most) (hm2 : most ≤ 262144) (fda fdb fsa fsb fp fsl fsh fdl fdh : Int) (hck : fcheck fda fdb fsa fsb fp fsl fsh fdl fdh = 0) (hfdb : -4611686018427387904 ≤ fdb ∧ fdb ≤ 4611686018427387904) (hfsb : -4611686018427387904 ≤ fsb ∧ fsb ≤ 4611686018427387904) (hpr : 0 ≤ fsl ∧ fsh ≤ 65535 ∧ 0 ≤ fdl ∧ fdh ≤ 65535) : Calls Try.prog 15 #[.pointer (some ⟨b, 0, none⟩), .agg #[.int .u32 fda, .int .i64 fdb, .int .u32 fsa, .int .i64 fsb, .int .i64 fp, .int .u16 fsl, .int .u16 fsh, .int .u16 fdl, .int .u16 fdh]] w fun e w' => ∃ Fp' A' r c, e = .returned (.tuple #[.int .i64 r, .int .i64 c]) ∧ ArenaAt w' b Fp' A' most ∧ Mut Fp Fp' w w' ∧ Res A A' most c (Okn A' r ∧ ∀ v, den A' v r = filtD fda fdb fsa fsb fp fsl fsh fdl fdh v) ∧ (c ≠ 0 → A' = A ∧ r = 0) := by
  have hl2 := hW.len
  refine enter 24 Try.ntmps15 Try.func15 rfl (Nat.le_of_ble_eq_true rfl) fun a0 d0 z0 hargs => ?_
  have s0_0 : a0.eval (.tmp 0) = .pointer (some ⟨b, 0, none⟩) := hargs 0 _ rfl
  have s0_1 : a0.eval (.tmp 1) = .agg #[.int .u32 fda, .int .i64 fdb, .int .u32 fsa, .int .i64 fsb, .int .i64 fp, .int .u16 fsl, .int .u16 fsh, .int .u16 fdl, .int .u16 fdh] := hargs 1 _ rfl
  have x0 := Touch.refl Fp w
  refine wp_seq ?_
  refine seq_begin ?_
  refine sbox z0 rfl s0_0 ?_; intro b1 w1 a1 t1 g1 hb1 u1 z1
  have o2 : ¬ Fp b1 := fun hQ => by have := ArenaAt.lt H hQ; omega
  have yb1_3 := Nat.le_trans (Touch.size x0) g1
  refine sbox z1 rfl ((u1.past 1 rfl).trans s0_1) ?_; intro b4 w4 a4 t4 g4 hb4 u4 z4
  have n5_b1_b4 := ne_lt (lt_of hb1) g4
  have H_7 := (ArenaAt.keep H t1)
  have o6 : ¬ Fp b4 := fun hQ => by have := ArenaAt.lt H_7 hQ; omega
  have x9 := (Touch.trans x0 (Ext.touch t1))
  have yb4_8 := Nat.le_trans (Touch.size x9) g4
  refine sp z4 rfl rfl (ex_assign rfl) ?_; intro a10 u10 z10
  refine sp z10 rfl rfl (ex_assign rfl) ?_; intro a11 u11 z11
  have d12 := (u11.defs.trans (u10.defs.trans (u4.defs.trans (u1.defs.trans d0))))
  refine seq_end ?_
  refine then_norm ?_
  refine wp_seq_k fun K13 hK13 => ?_
  have s14_2 : a1.eval (.tmp 2) = .pointer (some ⟨b1, 0, none⟩) := (u1.here _ rfl)
  have s15_2 := ((u11.past 2 rfl).trans ((u10.past 2 rfl).trans ((u4.past 2 rfl).trans s14_2)))
  have hb1_16 := (Ext.keep t4 hb1)
  refine rgs mixed 24 [.eq (.pointer (some ⟨b, 0, none⟩)), .eq (.bool false)] [[(2, none)], [(7, some 0)]] d12 z11 (by kernel_rfl) ⟨Ov rfl rfl fun _ _ T ⟨k2, _⟩ => ex_load (k2.trans s15_2) (Try.isAgg34 _) (cell_of (Ext.keep T.ext hb1_16) rfl), Ov rfl rfl fun _ _ T ⟨k7, _⟩ => ex_ptr_eql_nil k7 rfl (by kernel_rfl), trivial⟩ ?_
  intro a17 w17 d17 z17 t17 e17 q17
  have s18_8 : a17.eval (.tmp 8) = .bool false := e17.2.1
  refine wp_cond_false s18_8 ?_
  refine wp_skip ?_
  repeat (with_reducible refine block_norm ?_)
  refine hK13 _ _ ?_
  refine wp_seq_k fun K19 hK19 => ?_
  refine wp_seq ?_
  refine seq_begin ?_
  have hb4_21 := (Ext.keep t17 hb4)
  refine sp z17 rfl rfl (ex_loadAgg (cs := [.int .u32 fda, .int .i64 fdb, .int .u32 fsa, .int .i64 fsb, .int .i64 fp, .int .u16 fsl, .int .u16 fsh, .int .u16 fdl, .int .u16 fdh]) ((q17 3 rfl).trans ((u11.past 3 rfl).trans ((u10.past 3 rfl).trans (u4.here _ rfl)))) (Try.isAgg29 _) (Try.sizeOf29 _) (cells_of (off := 0) hb4_21 rfl)) ?_; intro a20 u20 z20
  refine scx z20 rfl rfl (exl_call Try.func51 rfl rfl (cons_ops (u20.here _ rfl) nil_ops)) (c_fcheck fda fdb fsa fsb fp fsl fsh fdl fdh (by omega) (by omega) _) ?_; intro w22 a22 t22 u22 z22
  refine sp z22 rfl rfl (ex_assign (u22.here _ rfl)) ?_; intro a23 u23 z23
  have d24 := (u23.defs.trans (u22.defs.trans (u20.defs.trans d17)))
  refine seq_end ?_
  refine then_norm ?_
  have s25_6 : a23.eval (.tmp 6) = .int .i64 (fcheck fda fdb fsa fsb fp fsl fsh fdl fdh) := (u23.here _ rfl)
  refine rgs mixed 24 [.eq (.int .i64 (fcheck fda fdb fsa fsb fp fsl fsh fdl fdh)), .eq (.bool (decide ((fcheck fda fdb fsa fsb fp fsl fsh fdl fdh) ≠ 0)))] [[(6, none)], [(11, some 0)]] d24 z23 (by kernel_rfl) ⟨Ov rfl rfl fun _ _ T ⟨k6, _⟩ => ex_move (k6.trans s25_6), Ov rfl rfl fun _ _ T ⟨k11, _⟩ => ex_neq k11 rfl, trivial⟩ ?_
  intro a26 w26 d26 z26 t26 e26 q26
  by_cases c27 : (fcheck fda fdb fsa fsb fp fsl fsh fdl fdh) ≠ 0
  · have y27 := decide_eq_true c27
    have s28_12 : a26.eval (.tmp 12) = .bool (decide ((fcheck fda fdb fsa fsb fp fsl fsh fdl fdh) ≠ 0)) := e26.2.1
    refine wp_cond_true (s28_12.trans (by rw [y27])) ?_
    have s29_6 := ((q26 6 rfl).trans s25_6)
    refine rgs mixed 24 [.eq (.int .i64 (fcheck fda fdb fsa fsb fp fsl fsh fdl fdh)), .eq (.int .i64 0), .eq (.int .i64 (fcheck fda fdb fsa fsb fp fsl fsh fdl fdh))] [[(6, none)], [], [(13, some 0)]] d26 z26 (by kernel_rfl) ⟨Ov rfl rfl fun _ _ T ⟨k6, _⟩ => ex_move (k6.trans s29_6), Ov rfl rfl fun _ _ T _ => ex_assign rfl, Ov rfl rfl fun _ _ T ⟨k13, _⟩ => ex_assign k13, trivial⟩ ?_
    intro a30 w30 d30 z30 t30 e30 q30
    refine wp_ret ?_
    have s31_4 : a30.eval (.tmp 4) = .int .i64 0 := e30.2.1
    have s32_5 : a30.eval (.tmp 5) = .int .i64 (fcheck fda fdb fsa fsb fp fsl fsh fdl fdh) := e30.2.2.1
    repeat (first | (with_reducible refine then_ret ?_) | (with_reducible refine block_ret ?_))
    refine rett (rs := [.tmp 4, .tmp 5]) (vs := [.int .i64 0, .int .i64 (fcheck fda fdb fsa fsb fp fsl fsh fdl fdh)]) Try.results15 ⟨s31_4, ⟨s32_5, trivial⟩⟩ (by simp) d30 ?_
    exact absurd hck c27
  · have y27 := decide_eq_false c27
    have s33_12 : a26.eval (.tmp 12) = .bool (decide ((fcheck fda fdb fsa fsb fp fsl fsh fdl fdh) ≠ 0)) := e26.2.1
    refine wp_cond_false (s33_12.trans (by rw [y27])) ?_
    refine wp_skip ?_
    repeat (with_reducible refine block_norm ?_)
    refine hK19 _ _ ?_
    refine wp_seq ?_
    refine seq_begin ?_
    have hb1_35 := (Ext.keep t26 (Ext.keep t22 (Ext.keep t17 hb1_16)))
    refine sp z26 rfl rfl (ex_load ((q26 2 rfl).trans ((u23.past 2 rfl).trans ((u22.past 2 rfl).trans ((u20.past 2 rfl).trans ((q17 2 rfl).trans s15_2))))) (Try.isAgg34 _) (cell_of hb1_35 rfl)) ?_; intro a34 u34 z34
    refine sp z34 rfl rfl (exl_makeFunc (cons_ops ((u34.past 2 rfl).trans ((q26 2 rfl).trans ((u23.past 2 rfl).trans ((u22.past 2 rfl).trans ((u20.past 2 rfl).trans ((q17 2 rfl).trans s15_2)))))) (cons_ops ((u34.past 3 rfl).trans ((q26 3 rfl).trans ((u23.past 3 rfl).trans ((u22.past 3 rfl).trans ((u20.past 3 rfl).trans ((q17 3 rfl).trans ((u11.past 3 rfl).trans ((u10.past 3 rfl).trans (u4.here _ rfl))))))))) nil_ops))) ?_; intro a36 u36 z36
    refine sp z36 rfl rfl (exl_makeFunc (cons_ops ((u36.past 2 rfl).trans ((u34.past 2 rfl).trans ((q26 2 rfl).trans ((u23.past 2 rfl).trans ((u22.past 2 rfl).trans ((u20.past 2 rfl).trans ((q17 2 rfl).trans s15_2))))))) (cons_ops ((u36.past 3 rfl).trans ((u34.past 3 rfl).trans ((q26 3 rfl).trans ((u23.past 3 rfl).trans ((u22.past 3 rfl).trans ((u20.past 3 rfl).trans ((q17 3 rfl).trans ((u11.past 3 rfl).trans ((u10.past 3 rfl).trans (u4.here _ rfl)))))))))) nil_ops))) ?_; intro a37 u37 z37
    refine sp z37 rfl rfl (exl_makeFunc (cons_ops ((u37.past 3 rfl).trans ((u36.past 3 rfl).trans ((u34.past 3 rfl).trans ((q26 3 rfl).trans ((u23.past 3 rfl).trans ((u22.past 3 rfl).trans ((u20.past 3 rfl).trans ((q17 3 rfl).trans ((u11.past 3 rfl).trans ((u10.past 3 rfl).trans (u4.here _ rfl))))))))))) (cons_ops ((u37.past 2 rfl).trans ((u36.past 2 rfl).trans ((u34.past 2 rfl).trans ((q26 2 rfl).trans ((u23.past 2 rfl).trans ((u22.past 2 rfl).trans ((u20.past 2 rfl).trans ((q17 2 rfl).trans s15_2)))))))) nil_ops))) ?_; intro a38 u38 z38
    refine sp z38 rfl rfl (exl_makeFunc (cons_ops ((u38.past 2 rfl).trans ((u37.past 2 rfl).trans ((u36.past 2 rfl).trans ((u34.past 2 rfl).trans ((q26 2 rfl).trans ((u23.past 2 rfl).trans ((u22.past 2 rfl).trans ((u20.past 2 rfl).trans ((q17 2 rfl).trans s15_2))))))))) (cons_ops ((u38.past 3 rfl).trans ((u37.past 3 rfl).trans ((u36.past 3 rfl).trans ((u34.past 3 rfl).trans ((q26 3 rfl).trans ((u23.past 3 rfl).trans ((u22.past 3 rfl).trans ((u20.past 3 rfl).trans ((q17 3 rfl).trans ((u11.past 3 rfl).trans ((u10.past 3 rfl).trans (u4.here _ rfl)))))))))))) nil_ops))) ?_; intro a39 u39 z39
    refine sp z39 rfl rfl (exl_makeFunc (cons_ops ((u39.past 2 rfl).trans ((u38.past 2 rfl).trans ((u37.past 2 rfl).trans ((u36.past 2 rfl).trans ((u34.past 2 rfl).trans ((q26 2 rfl).trans ((u23.past 2 rfl).trans ((u22.past 2 rfl).trans ((u20.past 2 rfl).trans ((q17 2 rfl).trans s15_2)))))))))) (cons_ops ((u39.past 3 rfl).trans ((u38.past 3 rfl).trans ((u37.past 3 rfl).trans ((u36.past 3 rfl).trans ((u34.past 3 rfl).trans ((q26 3 rfl).trans ((u23.past 3 rfl).trans ((u22.past 3 rfl).trans ((u20.past 3 rfl).trans ((q17 3 rfl).trans ((u11.past 3 rfl).trans ((u10.past 3 rfl).trans (u4.here _ rfl))))))))))))) nil_ops))) ?_; intro a40 u40 z40
    refine snew (mk := fun bQ => .slice (some ⟨bQ, 0, none⟩) 5 5) z40 rfl rfl (exl_buildSlice (cons_parts ((u40.past 15 rfl).trans ((u39.past 15 rfl).trans ((u38.past 15 rfl).trans ((u37.past 15 rfl).trans (u36.here _ rfl))))) (cons_parts ((u40.past 16 rfl).trans ((u39.past 16 rfl).trans ((u38.past 16 rfl).trans (u37.here _ rfl)))) (cons_parts ((u40.past 17 rfl).trans ((u39.past 17 rfl).trans (u38.here _ rfl))) (cons_parts ((u40.past 18 rfl).trans (u39.here _ rfl)) (cons_parts (u40.here _ rfl) nil_parts))))) (bs_186_5_0F53PPE_1F54PPE_2F55PPE_3F58PPE_4F60PPE ⟨b1, 0, none⟩ ⟨b4, 0, none⟩ ⟨b1, 0, none⟩ ⟨b4, 0, none⟩ ⟨b4, 0, none⟩ ⟨b1, 0, none⟩ ⟨b1, 0, none⟩ ⟨b4, 0, none⟩ ⟨b1, 0, none⟩ ⟨b4, 0, none⟩ _)) ?_; intro b41 w41 a41 t41 g41 hb41 u41 z41
    have n42_b1_b41 := ne_lt (lt_of hb1_35) g41
    have hb4_44 := (Ext.keep t26 (Ext.keep t22 hb4_21))
    have n43_b4_b41 := ne_lt (lt_of hb4_44) g41
    have H_46 := (ArenaAt.keep (ArenaAt.keep (ArenaAt.keep (ArenaAt.keep H_7 t4) t17) t22) t26)
    have o45 : ¬ Fp b41 := fun hQ => by have := ArenaAt.lt H_46 hQ; omega
    have x48 := (Touch.trans (Touch.trans (Touch.trans (Touch.trans x9 (Ext.touch t4)) (Ext.touch t17)) (Ext.touch t22)) (Ext.touch t26))
    have yb41_47 := Nat.le_trans (Touch.size x48) g41
    have H_50 := (ArenaAt.keep H_46 t41)
    have hb1_51 := (Ext.keep t41 hb1_35)
    have hb4_52 := (Ext.keep t41 hb4_44)
    refine sc z41 rfl rfl (exl_call Try.func52 rfl rfl (cons_ops ((u41.past 14 rfl).trans ((u40.past 14 rfl).trans ((u39.past 14 rfl).trans ((u38.past 14 rfl).trans ((u37.past 14 rfl).trans ((u36.past 14 rfl).trans (u34.here _ rfl))))))) (cons_ops (u41.here _ rfl) nil_ops))) (c_all H_50 hW hm hm2 (ls := (filtCls b1 b4 fda fdb fsa fsb fp fsl fsh fdl fdh)) (own_of (k := 1) (n := 5) (cs := flat cvs (filtCls b1 b4 fda fdb fsa fsb fp fsl fsh fdl fdh)) hb41 rfl (by decide)) (fun jQ hQ => by cases hQ; exact o45) (filtCls_ok hm2 fda fdb fsa fsb fp fsl fsh fdl fdh hb1_51 hb4_52 hck hfdb hfsb hpr o2 o6)) ?_
    rintro e49 w49 ⟨Fp49, A49, r49, c49, he49, H49, m49, R49, back49⟩; refine ⟨_, he49, ?_⟩; intro a49 u49 z49
    have o53 := Mut.out m49 (lt_of hb1_51) o2
    have o54 := Mut.out m49 (lt_of hb4_52) o6
    have o55 := Mut.out m49 (lt_of hb41) o45
    have x56 := (Touch.trans x48 (Ext.touch t41))
    have i57 := Mut.inF m49 x56 (fun jQ hQ => Or.inl hQ)
    refine sp z49 rfl rfl (ex_extract (u49.here _ rfl) rfl) ?_; intro a58 u58 z58
    refine sp z58 rfl rfl (ex_extract ((u58.past 21 rfl).trans (u49.here _ rfl)) rfl) ?_; intro a59 u59 z59
    refine sp z59 rfl rfl (ex_assign ((u59.past 22 rfl).trans (u58.here _ rfl))) ?_; intro a60 u60 z60
    refine sp z60 rfl rfl (ex_assign ((u60.past 23 rfl).trans (u59.here _ rfl))) ?_; intro a61 u61 z61
    have d62 := (u61.defs.trans (u60.defs.trans (u59.defs.trans (u58.defs.trans (u49.defs.trans (u41.defs.trans (u40.defs.trans (u39.defs.trans (u38.defs.trans (u37.defs.trans (u36.defs.trans (u34.defs.trans d26))))))))))))
    refine seq_end ?_
    refine then_norm ?_
    refine wp_ret ?_
    have s63_4 : a60.eval (.tmp 4) = .int .i64 r49 := (u60.here _ rfl)
    have s64_4 := ((u61.past 4 rfl).trans s63_4)
    have s65_5 : a61.eval (.tmp 5) = .int .i64 c49 := (u61.here _ rfl)
    repeat (first | (with_reducible refine then_ret ?_) | (with_reducible refine block_ret ?_))
    refine rett (rs := [.tmp 4, .tmp 5]) (vs := [.int .i64 r49, .int .i64 c49]) Try.results15 ⟨s64_4, ⟨s65_5, trivial⟩⟩ (by simp) d62 ?_
    have x66 := (Touch.mut x56 m49 (fun jQ hQ => Or.inl hQ))
    exact ⟨_, _, _, _, rfl, H49, ⟨x66, i57⟩, (R49.imp fun hQ => ⟨hQ.1, fun v => by rw [hQ.2 v]; simp [filtCls, filtD]⟩), back49⟩

end Go.Proofs.Yticodddigaiipaa
