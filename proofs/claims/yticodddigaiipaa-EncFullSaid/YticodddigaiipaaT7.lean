/-
  Contracts of functions of the given program, each proved by a walk through its code: what a call answers, and what it leaves of memory; conditions: those ahead of each theorem's colon.
-/
import Derived.Test.YticodddigaiipaaT6
import Derived.Test.YticodddigaiipaaK14
import Derived.Test.YticodddigaiipaaL6
set_option linter.unusedVariables false
set_option linter.unusedSimpArgs false
namespace Go.Proofs.Yticodddigaiipaa
open Go.RowKit
theorem cv_3_22 {n : Int} {w : World} : (convert 3 22 (.int .i64 n)).run Try.prog w = .ok (.int .u32 (IntKind.u32.wrap n)) w := run_conv Try.underlying3 Try.underlying22
theorem cvn_3_22 {n : Int} {w : World} (h : 0 ≤ n ∧ n ≤ 4294967295) : (convert 3 22 (.int .i64 n)).run Try.prog w = .ok (.int .u32 n) w := by rw [cv_3_22, wrap_u32 h]

/-- a closure, and what set it makes -/
structure Cl where
  fid : Nat
  caps : List Value
  D : (Int → Bool) → Bool
def cl0 : Cl := ⟨0, [], fun _ => false⟩
def Cl.val (c : Cl) : Value := .func (.func c.fid) #[] c.caps.toArray
def cvs (c : Cl) : List Value := [c.val]
theorem cvs1 : ∀ x, (cvs x).length = 1 := fun _ => rfl
def APost (w : World) (b : Nat) (Fp : Nat → Prop) (A : List N3) (most : Int) (D : (Int → Bool) → Bool) : Ending → World → Prop :=
  fun e w' => ∃ Fp' A' r c, e = .returned (.tuple #[.int .i64 r, .int .i64 c]) ∧ ArenaAt w' b Fp' A' most ∧ Mut Fp Fp' w w' ∧ Res A A' most c (Okn A' r ∧ ∀ v, den A' v r = D v) ∧ (c ≠ 0 → A' = A ∧ r = 0)
structure ClOk (w : World) (b : Nat) (Fp : Nat → Prop) (most : Int) (c : Cl) : Prop where
  fn : ∃ fn, Try.prog.funcs[c.fid]? = some fn ∧ fn.body.isNone = false ∧ (fn.name == "runtime.NumGoroutine") = false
  run : ∀ w1 Fp1 A1, Mut Fp Fp1 w w1 → ArenaAt w1 b Fp1 A1 most → Wf A1 → (A1.length : Int) ≤ most → Calls Try.prog c.fid c.caps.toArray w1 (APost w1 b Fp1 A1 most c.D)

set_option maxRecDepth 100000 in
set_option maxHeartbeats 4000000 in
theorem c_all {w : World} {b : Nat} {Fp : Nat → Prop} {A : List N3} {most : Int} (H : ArenaAt w b Fp A most) (hW : Wf A) (hm : (A.length : Int) ≤ most) (hm2 : most ≤ 262144) {Q : Option Addr} {ls : List Cl} {cq : Nat} (HL : w.ownsRow 0 126 1 (.slice Q ls.length cq) ls.length (flat cvs ls)) (hout : ∀ j, (Value.slice Q ls.length cq).ownBlock = some j → ¬ Fp j) (hcls : ∀ c ∈ ls, ClOk w b Fp most c) : Calls Try.prog 52 #[.pointer (some ⟨b, 0, none⟩), .slice Q ls.length cq] w fun e w' => ∃ Fp' A' r c, e = .returned (.tuple #[.int .i64 r, .int .i64 c]) ∧ ArenaAt w' b Fp' A' most ∧ Mut Fp Fp' w w' ∧ Res A A' most c (Okn A' r ∧ ∀ v, den A' v r = ls.all fun x => x.D v) ∧ (c ≠ 0 → A' = A ∧ r = 0) := by
  have hl2 := hW.len
  refine enter 42 Try.ntmps52 Try.func52 rfl (Nat.le_of_ble_eq_true rfl) fun a0 d0 z0 hargs => ?_
  have s0_0 : a0.eval (.tmp 0) = .pointer (some ⟨b, 0, none⟩) := hargs 0 _ rfl
  have s0_1 : a0.eval (.tmp 1) = .slice Q ls.length cq := hargs 1 _ rfl
  have x0 := Touch.refl Fp w
  refine rgs mixed 42 [.eq (.int .i64 0), .eq (.int .i64 0)] [[], []] d0 z0 (by kernel_rfl) ⟨Ov rfl rfl fun _ _ T _ => ex_assign rfl, Ov rfl rfl fun _ _ T _ => ex_assign rfl, trivial⟩ ?_
  intro a1 w1 d1 z1 t1 e1 q1
  refine wp_seq ?_
  refine seq_begin ?_
  refine sp z1 rfl rfl (ex_move ((q1 0 rfl).trans s0_0)) ?_; intro a2 u2 z2
  have H_4 := (ArenaAt.keep H t1)
  refine scx z2 rfl rfl (exl_call Try.func16 rfl rfl (cons_ops (u2.here _ rfl) nil_ops)) (a_len H_4) ?_; intro w3 a3 t3 u3 z3
  refine sp z3 rfl rfl (ex_assign (u3.here _ rfl)) ?_; intro a5 u5 z5
  have d6 := (u5.defs.trans (u3.defs.trans (u2.defs.trans d1)))
  refine seq_end ?_
  refine then_norm ?_
  refine rgs mixed 42 [.eq (.int .i64 1)] [[]] d6 z5 (by kernel_rfl) ⟨Ov rfl rfl fun _ _ T _ => ex_assign rfl, trivial⟩ ?_
  intro a7 w7 d7 z7 t7 e7 q7
  refine wp_seq_k fun K8 hK8 => ?_
  have s9_1 := ((q7 1 rfl).trans ((u5.past 1 rfl).trans ((u3.past 1 rfl).trans ((u2.past 1 rfl).trans ((q1 1 rfl).trans s0_1)))))
  refine rgs mixed 42 [.eq (.slice Q ls.length cq), .eq (.int .i64 (ls.length : Int)), .eq (.int .i64 0)] [[(1, none)], [(14, some 0)], []] d7 z7 (by kernel_rfl) ⟨Ov rfl rfl fun _ _ T ⟨k1, _⟩ => ex_move (k1.trans s9_1), Ov rfl rfl fun _ _ T ⟨k14, _⟩ => ex_len (cons_ops k14 nil_ops) Try.underlying186, Ov rfl rfl fun _ _ T _ => ex_move rfl, trivial⟩ ?_
  intro a10 w10 d10 z10 t10 e10 q10
  refine wp_block ?_
  have H_11 := (ArenaAt.keep (ArenaAt.keep (ArenaAt.keep H_4 t3) t7) t10)
  have s13_0 := ((q10 0 rfl).trans ((q7 0 rfl).trans ((u5.past 0 rfl).trans ((u3.past 0 rfl).trans ((u2.past 0 rfl).trans ((q1 0 rfl).trans s0_0))))))
  have s14_6 : a5.eval (.tmp 6) = .int .i64 (A.length : Int) := (u5.here _ rfl)
  have s15_6 := ((q10 6 rfl).trans ((q7 6 rfl).trans s14_6))
  have s16_7 : a7.eval (.tmp 7) = .int .i64 1 := e7.1
  have s17_7 := ((q10 7 rfl).trans s16_7)
  have s18_14 : a10.eval (.tmp 14) = .slice Q ls.length cq := e10.1
  have s19_15 : a10.eval (.tmp 15) = .int .i64 (ls.length : Int) := e10.2.1
  have s20_16 : a10.eval (.tmp 16) = .int .i64 0 := e10.2.2.1
  have x21 := (Touch.trans (Touch.trans (Touch.trans (Touch.trans x0 (Ext.touch t1)) (Ext.touch t3)) (Ext.touch t7)) (Ext.touch t10))
  have HL_22 := (own_keep (own_keep (own_keep (own_keep HL t1) t3) t7) t10)
  refine wp_loopg (σ := Nat) (fun nQ aQ wQ => ∃ k : Nat, ∃ A1 : List N3, ∃ Fp1 : Nat → Prop, ∃ r : Int, nQ = (ls.length - k) ∧
    aQ.defers = [] ∧
    aQ.tmps.size = 42 ∧
    aQ.eval (.tmp 0) = .pointer (some ⟨b, 0, none⟩) ∧
    aQ.eval (.tmp 6) = .int .i64 (A.length : Int) ∧
    aQ.eval (.tmp 7) = .int .i64 r ∧
    aQ.eval (.tmp 14) = .slice Q ls.length cq ∧
    aQ.eval (.tmp 15) = .int .i64 (ls.length : Int) ∧
    aQ.eval (.tmp 16) = .int .i64 (k : Int) ∧
    Touch (Fp) w wQ ∧
    wQ.ownsRow 0 126 1 (.slice Q ls.length cq) (ls.length) (flat cvs ls) ∧
    ArenaAt wQ b Fp1 A1 most ∧
    (k ≤ ls.length) ∧
    (Wf A1) ∧
    (A <+: A1) ∧
    ((A1.length : Int) ≤ most) ∧
    (Okn A1 r) ∧
    (∀ v, den A1 v r = (ls.take k).all fun x => x.D v) ∧
    (∀ j, Fp1 j → Fp j ∨ w.heap.size ≤ j) ∧
    (∀ j, (Value.slice Q ls.length cq).ownBlock = some j → ¬ Fp1 j)) (fun nQ => nQ) _ ⟨0, A, Fp, 1, rfl, d10, z10, s13_0, s15_6, (s17_7.trans (by first | rfl | (congr 1; omega) | (simp; omega) | simp)), s18_14, s19_15, (s20_16.trans (by first | rfl | (congr 1; omega) | (simp; omega) | simp)), x21, HL_22, H_11, Nat.zero_le _, hW, List.prefix_refl _, hm, ⟨by omega, by omega⟩, (fun v => rfl), (fun jQ hQ => Or.inl hQ), hout⟩ ?_
  rintro nQ12 a12 w12 ⟨k, A1, Fp1, r, hmu12, d12, z12, s12_0, s12_6, s12_7, s12_14, s12_15, s12_16, x12, HL_23, f24, hk, hwf, hpre, hroom, hok, hden, hin, hout1⟩
  have len1 := hwf.len
  refine rgs mixed 42 [.eq (.bool (decide ((k : Int) < (ls.length : Int))))] [[(16, none), (15, none)]] d12 z12 (by kernel_rfl) ⟨Ov rfl rfl fun _ _ T ⟨k16, k15, _⟩ => ex_lss (k16.trans s12_16) (k15.trans s12_15), trivial⟩ ?_
  intro a25 w25 d25 z25 t25 e25 q25
  refine wp_seq_k fun K26 hK26 => ?_
  by_cases c27 : (k : Int) < (ls.length : Int)
  · have y27 := decide_eq_true c27
    have s28_17 : a25.eval (.tmp 17) = .bool (decide ((k : Int) < (ls.length : Int))) := e25.1
    refine wp_cond_true (s28_17.trans (by rw [y27])) ?_
    refine wp_skip ?_
    repeat (with_reducible refine block_norm ?_)
    refine hK26 _ _ ?_
    refine wp_seq_k fun K29 hK29 => ?_
    refine wp_block ?_
    have HL_31 := (own_keep HL_23 t25)
    have hk2 : k < ls.length := by omega
    have hmax := own_max HL_31
    obtain ⟨rw30, hrw30⟩ := own_addr HL_31 (by omega)
    have hcl := hcls _ (at_mem (d := cl0) (i := (k : Int)) (by omega) (by omega))
    obtain ⟨fn, hfn1, hfn2, hfn3⟩ := hcl.fn
    have s32_14 := ((q25 14 rfl).trans s12_14)
    have s33_16 := ((q25 16 rfl).trans s12_16)
    refine rgs mixed 42 [.eq (.pointer (some ⟨rw30, Int.toNat (k : Int) * 1, none⟩)), .eq (.func (.func (at_ ls cl0 (k : Int)).fid) #[] (at_ ls cl0 (k : Int)).caps.toArray), .eq (.func (.func (at_ ls cl0 (k : Int)).fid) #[] (at_ ls cl0 (k : Int)).caps.toArray)] [[(14, none), (16, none)], [(18, some 0)], [(19, some 1)]] d25 z25 (by kernel_rfl) ⟨Ov rfl rfl fun _ _ T ⟨k14, k16, _⟩ => ex_ixa Try.underlying186 (Try.sizeOf126 _) (k14.trans s32_14) hrw30 (k16.trans s33_16) (by omega) (by omega), Ov rfl rfl fun _ _ T ⟨k18, _⟩ => ex_load k18 (Try.isAgg126 _) (own_at (own_keep HL_31 T.ext) hrw30 cvs1 (at_some' (d := cl0) (by rfl) (by omega) (by omega)) 0 rfl), Ov rfl rfl fun _ _ T ⟨k19, _⟩ => ex_assign k19, trivial⟩ ?_
    intro a34 w34 d34 z34 t34 e34 q34
    refine wp_seq ?_
    refine seq_begin ?_
    refine sp z34 rfl rfl (ex_move e34.2.2.1) ?_; intro a35 u35 z35
    have x37 := (Touch.trans (Touch.trans x12 (Ext.touch t25)) (Ext.touch t34))
    have f24_38 := (ArenaAt.keep (ArenaAt.keep f24 t25) t34)
    refine sc z35 rfl rfl (exl_callv (cs := (at_ ls cl0 (k : Int)).caps) (u35.here _ rfl) hfn1 hfn2 hfn3 nil_ops) (hcl.run _ _ _ ⟨x37, hin⟩ f24_38 hwf hroom) ?_
    rintro e36 w36 ⟨Fp36, A36, r36, c36, he36, H36, m36, R36, back36⟩; refine ⟨_, he36, ?_⟩; intro a36 u36 z36
    have HL_39 := (own_keep HL_31 t34)
    have o40 := fun jQ hQ => Mut.out m36 (own_lt HL_39 hQ) (hout1 jQ hQ)
    have i41 := Mut.inF m36 x37 hin
    refine sp z36 rfl rfl (ex_move (u36.here _ rfl)) ?_; intro a42 u42 z42
    refine sp z42 rfl rfl (ex_extract (u42.here _ rfl) rfl) ?_; intro a43 u43 z43
    refine sp z43 rfl rfl (ex_extract ((u43.past 20 rfl).trans (u42.here _ rfl)) rfl) ?_; intro a44 u44 z44
    refine sp z44 rfl rfl (ex_assign ((u44.past 23 rfl).trans (u43.here _ rfl))) ?_; intro a45 u45 z45
    refine sp z45 rfl rfl (ex_assign ((u45.past 24 rfl).trans (u44.here _ rfl))) ?_; intro a46 u46 z46
    have d47 := (u46.defs.trans (u45.defs.trans (u44.defs.trans (u43.defs.trans (u42.defs.trans (u36.defs.trans (u35.defs.trans d34)))))))
    refine seq_end ?_
    refine then_norm ?_
    refine wp_seq_k fun K48 hK48 => ?_
    have s49_11 : a46.eval (.tmp 11) = .int .i64 c36 := (u46.here _ rfl)
    refine rgs mixed 42 [.eq (.int .i64 c36), .eq (.bool (decide (c36 = 0)))] [[(11, none)], [(25, some 0)]] d47 z46 (by kernel_rfl) ⟨Ov rfl rfl fun _ _ T ⟨k11, _⟩ => ex_move (k11.trans s49_11), Ov rfl rfl fun _ _ T ⟨k25, _⟩ => ex_eql k25 rfl, trivial⟩ ?_
    intro a50 w50 d50 z50 t50 e50 q50
    by_cases c51 : c36 = 0
    · have y51 := decide_eq_true c51
      have s52_26 : a50.eval (.tmp 26) = .bool (decide (c36 = 0)) := e50.2.1
      refine wp_cond_true (s52_26.trans (by rw [y51])) ?_
      have cg := R36.ok.elim (fun hQ => hQ.2) (fun hQ => absurd hQ (by have := c51; omega))
      refine seq_begin ?_
      refine sp z50 rfl rfl (ex_move ((q50 0 rfl).trans ((u46.past 0 rfl).trans ((u45.past 0 rfl).trans ((u44.past 0 rfl).trans ((u43.past 0 rfl).trans ((u42.past 0 rfl).trans ((u36.past 0 rfl).trans ((u35.past 0 rfl).trans ((q34 0 rfl).trans ((q25 0 rfl).trans s12_0))))))))))) ?_; intro a53 u53 z53
      refine sp z53 rfl rfl (ex_move ((u53.past 7 rfl).trans ((q50 7 rfl).trans ((u46.past 7 rfl).trans ((u45.past 7 rfl).trans ((u44.past 7 rfl).trans ((u43.past 7 rfl).trans ((u42.past 7 rfl).trans ((u36.past 7 rfl).trans ((u35.past 7 rfl).trans ((q34 7 rfl).trans ((q25 7 rfl).trans s12_7)))))))))))) ?_; intro a54 u54 z54
      refine sp z54 rfl rfl (ex_move ((u54.past 10 rfl).trans ((u53.past 10 rfl).trans ((q50 10 rfl).trans ((u46.past 10 rfl).trans (u45.here _ rfl)))))) ?_; intro a55 u55 z55
      have H36_57 := (ArenaAt.keep H36 t50)
      refine sc z55 rfl rfl (exl_call Try.func68 rfl rfl (cons_ops ((u55.past 28 rfl).trans ((u54.past 28 rfl).trans (u53.here _ rfl))) (cons_ops rfl (cons_ops ((u55.past 29 rfl).trans (u54.here _ rfl)) (cons_ops (u55.here _ rfl) nil_ops))))) (c_Join H36_57 R36.wf R36.room hm2 0 r r36 (by omega) (ok_pre R36.pre hok) cg.1) ?_
      rintro e56 w56 ⟨Fp56, A56, r56, c56, he56, H56, m56, R56, back56⟩; refine ⟨_, he56, ?_⟩; intro a56 u56 z56
      have HL_58 := (own_keep (Mut.own m36 HL_39 hout1) t50)
      have o59 := fun jQ hQ => Mut.out m56 (own_lt HL_58 hQ) (o40 jQ hQ)
      have x60 := (Touch.trans (Touch.mut x37 m36 hin) (Ext.touch t50))
      have i61 := Mut.inF m56 x60 i41
      refine sp z56 rfl rfl (ex_move (u56.here _ rfl)) ?_; intro a62 u62 z62
      refine sp z62 rfl rfl (ex_extract (u62.here _ rfl) rfl) ?_; intro a63 u63 z63
      refine sp z63 rfl rfl (ex_extract ((u63.past 27 rfl).trans (u62.here _ rfl)) rfl) ?_; intro a64 u64 z64
      refine sp z64 rfl rfl (ex_assign ((u64.past 32 rfl).trans (u63.here _ rfl))) ?_; intro a65 u65 z65
      refine sp z65 rfl rfl (ex_assign ((u65.past 33 rfl).trans (u64.here _ rfl))) ?_; intro a66 u66 z66
      have d67 := (u66.defs.trans (u65.defs.trans (u64.defs.trans (u63.defs.trans (u62.defs.trans (u56.defs.trans (u55.defs.trans (u54.defs.trans (u53.defs.trans d50)))))))))
      refine seq_end ?_
      repeat (with_reducible refine block_norm ?_)
      refine hK48 _ _ ?_
      have s68_11 : a66.eval (.tmp 11) = .int .i64 c56 := (u66.here _ rfl)
      refine rgs mixed 42 [.eq (.int .i64 c56), .eq (.bool (decide (c56 ≠ 0)))] [[(11, none)], [(34, some 0)]] d67 z66 (by kernel_rfl) ⟨Ov rfl rfl fun _ _ T ⟨k11, _⟩ => ex_move (k11.trans s68_11), Ov rfl rfl fun _ _ T ⟨k34, _⟩ => ex_neq k34 rfl, trivial⟩ ?_
      intro a69 w69 d69 z69 t69 e69 q69
      by_cases c70 : c56 ≠ 0
      · have y70 := decide_eq_true c70
        have s71_35 : a69.eval (.tmp 35) = .bool (decide (c56 ≠ 0)) := e69.2.1
        refine wp_cond_true (s71_35.trans (by rw [y70])) ?_
        have lenm := R56.wf.len; have roomm := R56.room
        refine wp_seq ?_
        refine seq_begin ?_
        refine sp z69 rfl rfl (ex_move ((q69 0 rfl).trans ((u66.past 0 rfl).trans ((u65.past 0 rfl).trans ((u64.past 0 rfl).trans ((u63.past 0 rfl).trans ((u62.past 0 rfl).trans ((u56.past 0 rfl).trans ((u55.past 0 rfl).trans ((u54.past 0 rfl).trans ((u53.past 0 rfl).trans ((q50 0 rfl).trans ((u46.past 0 rfl).trans ((u45.past 0 rfl).trans ((u44.past 0 rfl).trans ((u43.past 0 rfl).trans ((u42.past 0 rfl).trans ((u36.past 0 rfl).trans ((u35.past 0 rfl).trans ((q34 0 rfl).trans ((q25 0 rfl).trans s12_0))))))))))))))))))))) ?_; intro a72 u72 z72
        refine sp z72 rfl rfl (ex_move ((u72.past 6 rfl).trans ((q69 6 rfl).trans ((u66.past 6 rfl).trans ((u65.past 6 rfl).trans ((u64.past 6 rfl).trans ((u63.past 6 rfl).trans ((u62.past 6 rfl).trans ((u56.past 6 rfl).trans ((u55.past 6 rfl).trans ((u54.past 6 rfl).trans ((u53.past 6 rfl).trans ((q50 6 rfl).trans ((u46.past 6 rfl).trans ((u45.past 6 rfl).trans ((u44.past 6 rfl).trans ((u43.past 6 rfl).trans ((u42.past 6 rfl).trans ((u36.past 6 rfl).trans ((u35.past 6 rfl).trans ((q34 6 rfl).trans ((q25 6 rfl).trans s12_6)))))))))))))))))))))) ?_; intro a73 u73 z73
        have H56_75 := (ArenaAt.keep H56 t69)
        refine sc z73 rfl rfl (exl_call Try.func101 rfl rfl (cons_ops ((u73.past 36 rfl).trans (u72.here _ rfl)) (cons_ops (u73.here _ rfl) nil_ops))) (c_cut H56_75 (A.length : Int) (by omega) (by omega) R56.wf.nodup) ?_
        rintro e74 w74 ⟨he74, H74, m74⟩; refine ⟨_, he74, ?_⟩; intro a74 u74 z74
        have HL_76 := (own_keep (Mut.own m56 HL_58 o40) t69)
        have o77 := fun jQ hQ => Mut.out m74 (own_lt HL_76 hQ) (o59 jQ hQ)
        have x78 := (Touch.trans (Touch.mut x60 m56 i41) (Ext.touch t69))
        have i79 := Mut.inF m74 x78 i61
        have d80 := (u74.defs.trans (u73.defs.trans (u72.defs.trans d69)))
        refine seq_end ?_
        refine then_norm ?_
        have s81_11 := ((u74.past 11 rfl).trans ((u73.past 11 rfl).trans ((u72.past 11 rfl).trans ((q69 11 rfl).trans s68_11))))
        refine rgs mixed 42 [.eq (.int .i64 c56), .eq (.int .i64 0), .eq (.int .i64 c56)] [[(11, none)], [], [(39, some 0)]] d80 z74 (by kernel_rfl) ⟨Ov rfl rfl fun _ _ T ⟨k11, _⟩ => ex_move (k11.trans s81_11), Ov rfl rfl fun _ _ T _ => ex_assign rfl, Ov rfl rfl fun _ _ T ⟨k39, _⟩ => ex_assign k39, trivial⟩ ?_
        intro a82 w82 d82 z82 t82 e82 q82
        refine wp_ret ?_
        have s83_4 : a82.eval (.tmp 4) = .int .i64 0 := e82.2.1
        have s84_5 : a82.eval (.tmp 5) = .int .i64 c56 := e82.2.2.1
        repeat (first | (with_reducible refine then_ret ?_) | (with_reducible refine block_ret ?_))
        refine rett (rs := [.tmp 4, .tmp 5]) (vs := [.int .i64 0, .int .i64 c56]) Try.results52 ⟨s83_4, ⟨s84_5, trivial⟩⟩ (by simp) d82 ?_
        have et := take_pre ((hpre.trans R36.pre).trans R56.pre) hl2 (n := (A.length : Int)) rfl
        have H74_85 := (ArenaAt.keep H74 t82)
        have HH := H74_85
        rw [et] at HH
        have x86 := (Touch.trans (Touch.mut x78 m74 i79) (Ext.touch t82))
        have hc := R56.ok.elim (fun hQ => absurd hQ.1 c70) (fun hQ => hQ)
        exact ⟨_, _, _, _, rfl, HH, ⟨x86, i79⟩, ⟨hW, List.prefix_refl _, hm, .inr hc⟩, fun _ => ⟨rfl, rfl⟩⟩
      · have y70 := decide_eq_false c70
        have s87_35 : a69.eval (.tmp 35) = .bool (decide (c56 ≠ 0)) := e69.2.1
        refine wp_cond_false (s87_35.trans (by rw [y70])) ?_
        refine wp_skip ?_
        repeat (with_reducible refine block_norm ?_)
        refine hK29 _ _ ?_
        have s88_16 := ((q69 16 rfl).trans ((u66.past 16 rfl).trans ((u65.past 16 rfl).trans ((u64.past 16 rfl).trans ((u63.past 16 rfl).trans ((u62.past 16 rfl).trans ((u56.past 16 rfl).trans ((u55.past 16 rfl).trans ((u54.past 16 rfl).trans ((u53.past 16 rfl).trans ((q50 16 rfl).trans ((u46.past 16 rfl).trans ((u45.past 16 rfl).trans ((u44.past 16 rfl).trans ((u43.past 16 rfl).trans ((u42.past 16 rfl).trans ((u36.past 16 rfl).trans ((u35.past 16 rfl).trans ((q34 16 rfl).trans s33_16)))))))))))))))))))
        refine rg mixed 42 [.eq (.int .i64 ((k : Int) + 1)), .eq (.int .i64 ((k : Int) + 1))] [[(16, none)], [(40, some 0)]] d69 z69 (by kernel_rfl) ⟨Ov rfl rfl fun _ _ T ⟨k16, _⟩ => ex_add64 (k16.trans s88_16) rfl (by omega), Ov rfl rfl fun _ _ T ⟨k40, _⟩ => ex_move k40, trivial⟩ ?_
        intro a89 w89 d89 z89 t89 e89 q89
        repeat (with_reducible refine block_norm ?_)
        have good := R56.ok.elim (fun hQ => hQ.2) (fun hQ => absurd hQ (by have := c70; omega))
        have gA := cg.2
        have s90_0 := ((q89 0 rfl).trans ((q69 0 rfl).trans ((u66.past 0 rfl).trans ((u65.past 0 rfl).trans ((u64.past 0 rfl).trans ((u63.past 0 rfl).trans ((u62.past 0 rfl).trans ((u56.past 0 rfl).trans ((u55.past 0 rfl).trans ((u54.past 0 rfl).trans ((u53.past 0 rfl).trans ((q50 0 rfl).trans ((u46.past 0 rfl).trans ((u45.past 0 rfl).trans ((u44.past 0 rfl).trans ((u43.past 0 rfl).trans ((u42.past 0 rfl).trans ((u36.past 0 rfl).trans ((u35.past 0 rfl).trans ((q34 0 rfl).trans ((q25 0 rfl).trans s12_0)))))))))))))))))))))
        have s91_6 := ((q89 6 rfl).trans ((q69 6 rfl).trans ((u66.past 6 rfl).trans ((u65.past 6 rfl).trans ((u64.past 6 rfl).trans ((u63.past 6 rfl).trans ((u62.past 6 rfl).trans ((u56.past 6 rfl).trans ((u55.past 6 rfl).trans ((u54.past 6 rfl).trans ((u53.past 6 rfl).trans ((q50 6 rfl).trans ((u46.past 6 rfl).trans ((u45.past 6 rfl).trans ((u44.past 6 rfl).trans ((u43.past 6 rfl).trans ((u42.past 6 rfl).trans ((u36.past 6 rfl).trans ((u35.past 6 rfl).trans ((q34 6 rfl).trans ((q25 6 rfl).trans s12_6)))))))))))))))))))))
        have s92_7 : a65.eval (.tmp 7) = .int .i64 r56 := (u65.here _ rfl)
        have s93_7 := ((q89 7 rfl).trans ((q69 7 rfl).trans ((u66.past 7 rfl).trans s92_7)))
        have s94_14 := ((q89 14 rfl).trans ((q69 14 rfl).trans ((u66.past 14 rfl).trans ((u65.past 14 rfl).trans ((u64.past 14 rfl).trans ((u63.past 14 rfl).trans ((u62.past 14 rfl).trans ((u56.past 14 rfl).trans ((u55.past 14 rfl).trans ((u54.past 14 rfl).trans ((u53.past 14 rfl).trans ((q50 14 rfl).trans ((u46.past 14 rfl).trans ((u45.past 14 rfl).trans ((u44.past 14 rfl).trans ((u43.past 14 rfl).trans ((u42.past 14 rfl).trans ((u36.past 14 rfl).trans ((u35.past 14 rfl).trans ((q34 14 rfl).trans s32_14))))))))))))))))))))
        have s95_15 := ((q89 15 rfl).trans ((q69 15 rfl).trans ((u66.past 15 rfl).trans ((u65.past 15 rfl).trans ((u64.past 15 rfl).trans ((u63.past 15 rfl).trans ((u62.past 15 rfl).trans ((u56.past 15 rfl).trans ((u55.past 15 rfl).trans ((u54.past 15 rfl).trans ((u53.past 15 rfl).trans ((q50 15 rfl).trans ((u46.past 15 rfl).trans ((u45.past 15 rfl).trans ((u44.past 15 rfl).trans ((u43.past 15 rfl).trans ((u42.past 15 rfl).trans ((u36.past 15 rfl).trans ((u35.past 15 rfl).trans ((q34 15 rfl).trans ((q25 15 rfl).trans s12_15)))))))))))))))))))))
        have s96_16 : a89.eval (.tmp 16) = .int .i64 ((k : Int) + 1) := e89.2.1
        have x97 := (Touch.trans (Touch.trans (Touch.mut x60 m56 i41) (Ext.touch t69)) (Ext.touch t89))
        have HL_98 := (own_keep (own_keep (Mut.own m56 HL_58 o40) t69) t89)
        have H56_99 := (ArenaAt.keep (ArenaAt.keep H56 t69) t89)
        refine then_norm ?_
        refine ⟨_, ⟨k + 1, _, Fp56, r56, rfl, d89, z89, s90_0, s91_6, s93_7, s94_14, s95_15, (s96_16.trans (by first | rfl | (congr 1; omega) | (simp; omega) | simp)), x97, HL_98, H56_99, by omega, R56.wf, ((hpre.trans R36.pre).trans R56.pre), R56.room, good.1, (fun v => by rw [good.2.1 v, den_pre R36.pre hwf R36.wf v r hok, hden v, gA v, all_take (d := cl0) hk2]; rfl), i61, o59⟩, ?_⟩; (show _ < _); rw [hmu12]; exact by omega
    · have y51 := decide_eq_false c51
      have s100_26 : a50.eval (.tmp 26) = .bool (decide (c36 = 0)) := e50.2.1
      refine wp_cond_false (s100_26.trans (by rw [y51])) ?_
      refine wp_skip ?_
      repeat (with_reducible refine block_norm ?_)
      refine hK48 _ _ ?_
      have s101_11 := ((q50 11 rfl).trans s49_11)
      refine rgs mixed 42 [.eq (.int .i64 c36), .eq (.bool (decide (c36 ≠ 0)))] [[(11, none)], [(34, some 0)]] d50 z50 (by kernel_rfl) ⟨Ov rfl rfl fun _ _ T ⟨k11, _⟩ => ex_move (k11.trans s101_11), Ov rfl rfl fun _ _ T ⟨k34, _⟩ => ex_neq k34 rfl, trivial⟩ ?_
      intro a102 w102 d102 z102 t102 e102 q102
      by_cases c103 : c36 ≠ 0
      · have y103 := decide_eq_true c103
        have s104_35 : a102.eval (.tmp 35) = .bool (decide (c36 ≠ 0)) := e102.2.1
        refine wp_cond_true (s104_35.trans (by rw [y103])) ?_
        have lenm := R36.wf.len; have roomm := R36.room
        refine wp_seq ?_
        refine seq_begin ?_
        refine sp z102 rfl rfl (ex_move ((q102 0 rfl).trans ((q50 0 rfl).trans ((u46.past 0 rfl).trans ((u45.past 0 rfl).trans ((u44.past 0 rfl).trans ((u43.past 0 rfl).trans ((u42.past 0 rfl).trans ((u36.past 0 rfl).trans ((u35.past 0 rfl).trans ((q34 0 rfl).trans ((q25 0 rfl).trans s12_0)))))))))))) ?_; intro a105 u105 z105
        refine sp z105 rfl rfl (ex_move ((u105.past 6 rfl).trans ((q102 6 rfl).trans ((q50 6 rfl).trans ((u46.past 6 rfl).trans ((u45.past 6 rfl).trans ((u44.past 6 rfl).trans ((u43.past 6 rfl).trans ((u42.past 6 rfl).trans ((u36.past 6 rfl).trans ((u35.past 6 rfl).trans ((q34 6 rfl).trans ((q25 6 rfl).trans s12_6))))))))))))) ?_; intro a106 u106 z106
        have H36_108 := (ArenaAt.keep (ArenaAt.keep H36 t50) t102)
        refine sc z106 rfl rfl (exl_call Try.func101 rfl rfl (cons_ops ((u106.past 36 rfl).trans (u105.here _ rfl)) (cons_ops (u106.here _ rfl) nil_ops))) (c_cut H36_108 (A.length : Int) (by omega) (by omega) R36.wf.nodup) ?_
        rintro e107 w107 ⟨he107, H107, m107⟩; refine ⟨_, he107, ?_⟩; intro a107 u107 z107
        have HL_109 := (own_keep (own_keep (Mut.own m36 HL_39 hout1) t50) t102)
        have o110 := fun jQ hQ => Mut.out m107 (own_lt HL_109 hQ) (o40 jQ hQ)
        have x111 := (Touch.trans (Touch.trans (Touch.mut x37 m36 hin) (Ext.touch t50)) (Ext.touch t102))
        have i112 := Mut.inF m107 x111 i41
        have d113 := (u107.defs.trans (u106.defs.trans (u105.defs.trans d102)))
        refine seq_end ?_
        refine then_norm ?_
        have s114_11 := ((u107.past 11 rfl).trans ((u106.past 11 rfl).trans ((u105.past 11 rfl).trans ((q102 11 rfl).trans s101_11))))
        refine rgs mixed 42 [.eq (.int .i64 c36), .eq (.int .i64 0), .eq (.int .i64 c36)] [[(11, none)], [], [(39, some 0)]] d113 z107 (by kernel_rfl) ⟨Ov rfl rfl fun _ _ T ⟨k11, _⟩ => ex_move (k11.trans s114_11), Ov rfl rfl fun _ _ T _ => ex_assign rfl, Ov rfl rfl fun _ _ T ⟨k39, _⟩ => ex_assign k39, trivial⟩ ?_
        intro a115 w115 d115 z115 t115 e115 q115
        refine wp_ret ?_
        have s116_4 : a115.eval (.tmp 4) = .int .i64 0 := e115.2.1
        have s117_5 : a115.eval (.tmp 5) = .int .i64 c36 := e115.2.2.1
        repeat (first | (with_reducible refine then_ret ?_) | (with_reducible refine block_ret ?_))
        refine rett (rs := [.tmp 4, .tmp 5]) (vs := [.int .i64 0, .int .i64 c36]) Try.results52 ⟨s116_4, ⟨s117_5, trivial⟩⟩ (by simp) d115 ?_
        have et := take_pre (hpre.trans R36.pre) hl2 (n := (A.length : Int)) rfl
        have H107_118 := (ArenaAt.keep H107 t115)
        have HH := H107_118
        rw [et] at HH
        have x119 := (Touch.trans (Touch.mut x111 m107 i112) (Ext.touch t115))
        have hc := R36.ok.elim (fun hQ => absurd hQ.1 c103) (fun hQ => hQ)
        exact ⟨_, _, _, _, rfl, HH, ⟨x119, i112⟩, ⟨hW, List.prefix_refl _, hm, .inr hc⟩, fun _ => ⟨rfl, rfl⟩⟩
      · have y103 := decide_eq_false c103
        have s120_35 : a102.eval (.tmp 35) = .bool (decide (c36 ≠ 0)) := e102.2.1
        refine wp_cond_false (s120_35.trans (by rw [y103])) ?_
        refine wp_skip ?_
        repeat (with_reducible refine block_norm ?_)
        refine hK29 _ _ ?_
        have s121_16 := ((q102 16 rfl).trans ((q50 16 rfl).trans ((u46.past 16 rfl).trans ((u45.past 16 rfl).trans ((u44.past 16 rfl).trans ((u43.past 16 rfl).trans ((u42.past 16 rfl).trans ((u36.past 16 rfl).trans ((u35.past 16 rfl).trans ((q34 16 rfl).trans s33_16))))))))))
        refine rg mixed 42 [.eq (.int .i64 ((k : Int) + 1)), .eq (.int .i64 ((k : Int) + 1))] [[(16, none)], [(40, some 0)]] d102 z102 (by kernel_rfl) ⟨Ov rfl rfl fun _ _ T ⟨k16, _⟩ => ex_add64 (k16.trans s121_16) rfl (by omega), Ov rfl rfl fun _ _ T ⟨k40, _⟩ => ex_move k40, trivial⟩ ?_
        intro a122 w122 d122 z122 t122 e122 q122
        repeat (with_reducible refine block_norm ?_)
        exfalso; omega
  · have y27 := decide_eq_false c27
    have s123_17 : a25.eval (.tmp 17) = .bool (decide ((k : Int) < (ls.length : Int))) := e25.1
    refine wp_cond_false (s123_17.trans (by rw [y27])) ?_
    refine wp_exit ?_
    repeat (first | (with_reducible refine then_exit ?_) | (with_reducible refine block_here ?_) | (with_reducible refine block_past rfl ?_))
    refine hK8 _ _ ?_
    have s124_7 := ((q25 7 rfl).trans s12_7)
    refine rgs mixed 42 [.eq (.int .i64 r), .eq (.int .i64 r), .eq (.int .i64 0)] [[(7, none)], [(41, some 0)], []] d25 z25 (by kernel_rfl) ⟨Ov rfl rfl fun _ _ T ⟨k7, _⟩ => ex_move (k7.trans s124_7), Ov rfl rfl fun _ _ T ⟨k41, _⟩ => ex_assign k41, Ov rfl rfl fun _ _ T _ => ex_assign rfl, trivial⟩ ?_
    intro a125 w125 d125 z125 t125 e125 q125
    refine wp_ret ?_
    have s126_4 : a125.eval (.tmp 4) = .int .i64 r := e125.2.1
    have s127_5 : a125.eval (.tmp 5) = .int .i64 0 := e125.2.2.1
    repeat (first | (with_reducible refine then_ret ?_) | (with_reducible refine block_ret ?_))
    refine rett (rs := [.tmp 4, .tmp 5]) (vs := [.int .i64 r, .int .i64 0]) Try.results52 ⟨s126_4, ⟨s127_5, trivial⟩⟩ (by simp) d125 ?_
    have hkk : k = ls.length := by omega
    subst hkk
    have f24_128 := (ArenaAt.keep (ArenaAt.keep f24 t25) t125)
    have x129 := (Touch.trans (Touch.trans x12 (Ext.touch t25)) (Ext.touch t125))
    exact ⟨_, _, _, _, rfl, f24_128, ⟨x129, hin⟩, ⟨hwf, hpre, hroom, .inl ⟨rfl, hok, fun v => by rw [hden v, List.take_length]⟩⟩, fun hQ => absurd rfl hQ⟩


theorem check_of {fda fdb fsa fsb fp fsl fsh fdl fdh : Int} (h : fcheck fda fdb fsa fsb fp fsl fsh fdl fdh = 0) : right fda fdb = true ∧ right fsa fsb = true ∧ -1 ≤ fp ∧ fp ≤ 255 ∧ fsl ≤ fsh ∧ fdl ≤ fdh := by
  unfold fcheck at h
  split at h
  · omega
  · split at h
    · omega
    · split at h
      · omega
      · rename_i h1 h2 h3
        simp only [Bool.or_eq_true, Bool.not_eq_true', decide_eq_true_eq, not_or, Bool.not_eq_false] at h1 h2 h3
        exact ⟨h1.1, h1.2, by omega, by omega, by omega, by omega⟩
theorem right_of {a b : Int} (h : right a b = true) : 0 ≤ b ∧ b ≤ 32 := by
  unfold right at h
  simp only [Bool.and_eq_true, decide_eq_true_eq] at h
  exact ⟨h.1.1, h.1.2⟩
/-- what each part of a filter lets in, bit by bit -/
def D0 (q a b : Int) (v : Int → Bool) : Bool := cubeD (litL q a 32 b.toNat) v
def DR (L : List I2) (q : Int) (v : Int → Bool) : Bool := L.any fun x => cubeD (litL q x.1 16 x.2.toNat) v

set_option maxRecDepth 100000 in
set_option maxHeartbeats 4000000 in
theorem c_F1 {w : World} {b : Nat} {Fp : Nat → Prop} {A : List N3} {most : Int} (H : ArenaAt w b Fp A most) (hW : Wf A) (hm : (A.length : Int) ≤ most) (hm2 : most ≤ 262144) {b2 b3 : Nat} (fda fdb fsa fsb fp fsl fsh fdl fdh : Int) (hb2 : w.heap[b2]? = some (.cells #[.pointer (some ⟨b, 0, none⟩)] 34 (0, 0))) (hb3 : w.heap[b3]? = some (.cells #[.int .u32 fda, .int .i64 fdb, .int .u32 fsa, .int .i64 fsb, .int .i64 fp, .int .u16 fsl, .int .u16 fsh, .int .u16 fdl, .int .u16 fdh] 29 (0, 0))) (hck : fcheck fda fdb fsa fsb fp fsl fsh fdl fdh = 0) (hfdb : -4611686018427387904 ≤ fdb ∧ fdb ≤ 4611686018427387904) (hfsb : -4611686018427387904 ≤ fsb ∧ fsb ≤ 4611686018427387904) (hpr : 0 ≤ fsl ∧ fsh ≤ 65535 ∧ 0 ≤ fdl ∧ fdh ≤ 65535) : Calls Try.prog 53 #[.pointer (some ⟨b2, 0, none⟩), .pointer (some ⟨b3, 0, none⟩)] w fun e w' => ∃ Fp' A' r c, e = .returned (.tuple #[.int .i64 r, .int .i64 c]) ∧ ArenaAt w' b Fp' A' most ∧ Mut Fp Fp' w w' ∧ Res A A' most c (Okn A' r ∧ ∀ v, den A' v r = cubeD (litL 0 fda 32 (fdb).toNat) v) ∧ (c ≠ 0 → A' = A ∧ r = 0) := by
  have hl2 := hW.len
  have ck := check_of hck
  have hr := ck.1
  refine enter 10 Try.ntmps53 Try.func53 rfl (Nat.le_of_ble_eq_true rfl) fun a0 d0 z0 hargs => ?_
  have s0_0 : a0.eval (.tmp 0) = .pointer (some ⟨b2, 0, none⟩) := hargs 0 _ rfl
  have s0_1 : a0.eval (.tmp 1) = .pointer (some ⟨b3, 0, none⟩) := hargs 1 _ rfl
  have x0 := Touch.refl Fp w
  refine rgs mixed 10 [.eq (.int .i64 0), .eq (.int .i64 0)] [[], []] d0 z0 (by kernel_rfl) ⟨Ov rfl rfl fun _ _ T _ => ex_assign rfl, Ov rfl rfl fun _ _ T _ => ex_assign rfl, trivial⟩ ?_
  intro a1 w1 d1 z1 t1 e1 q1
  refine wp_seq ?_
  refine seq_begin ?_
  have hb2_3 := (Ext.keep t1 hb2)
  refine sp z1 rfl rfl (ex_load ((q1 0 rfl).trans s0_0) (Try.isAgg34 _) (cell_of hb2_3 rfl)) ?_; intro a2 u2 z2
  refine sp z2 rfl rfl (ex_fieldAddr ((u2.past 1 rfl).trans ((q1 1 rfl).trans s0_1)) (fa_29_0 _ _ _)) ?_; intro a4 u4 z4
  have hb3_6 := (Ext.keep t1 hb3)
  refine sp z4 rfl rfl (ex_loadAgg (cs := [.int .u32 fda, .int .i64 fdb]) (u4.here _ rfl) (Try.isAgg24 _) (Try.sizeOf24 _) (cells_of (off := 0) hb3_6 rfl)) ?_; intro a5 u5 z5
  have H_8 := (ArenaAt.keep H t1)
  refine sc z5 rfl rfl (exl_call Try.func50 rfl rfl (cons_ops ((u5.past 4 rfl).trans ((u4.past 4 rfl).trans (u2.here _ rfl))) (cons_ops rfl (cons_ops (u5.here _ rfl) nil_ops)))) (c_Prefix H_8 hW hm hm2 0 fda fdb (by omega) (right_of hr) hr) ?_
  rintro e7 w7 ⟨Fp7, A7, r7, c7, he7, H7, m7, R7, back7, more7⟩; refine ⟨_, he7, ?_⟩; intro a7 u7 z7
  have x9 := (Touch.trans x0 (Ext.touch t1))
  have i10 := Mut.inF m7 x9 (fun jQ hQ => Or.inl hQ)
  refine sp z7 rfl rfl (ex_extract (u7.here _ rfl) rfl) ?_; intro a11 u11 z11
  refine sp z11 rfl rfl (ex_extract ((u11.past 7 rfl).trans (u7.here _ rfl)) rfl) ?_; intro a12 u12 z12
  refine sp z12 rfl rfl (ex_assign ((u12.past 8 rfl).trans (u11.here _ rfl))) ?_; intro a13 u13 z13
  refine sp z13 rfl rfl (ex_assign ((u13.past 9 rfl).trans (u12.here _ rfl))) ?_; intro a14 u14 z14
  have d15 := (u14.defs.trans (u13.defs.trans (u12.defs.trans (u11.defs.trans (u7.defs.trans (u5.defs.trans (u4.defs.trans (u2.defs.trans d1))))))))
  refine seq_end ?_
  refine then_norm ?_
  refine wp_ret ?_
  have s16_2 : a13.eval (.tmp 2) = .int .i64 r7 := (u13.here _ rfl)
  have s17_2 := ((u14.past 2 rfl).trans s16_2)
  have s18_3 : a14.eval (.tmp 3) = .int .i64 c7 := (u14.here _ rfl)
  repeat (first | (with_reducible refine then_ret ?_) | (with_reducible refine block_ret ?_))
  refine rett (rs := [.tmp 2, .tmp 3]) (vs := [.int .i64 r7, .int .i64 c7]) Try.results53 ⟨s17_2, ⟨s18_3, trivial⟩⟩ (by simp) d15 ?_
  have x19 := (Touch.mut x9 m7 (fun jQ hQ => Or.inl hQ))
  exact ⟨_, _, _, _, rfl, H7, ⟨x19, i10⟩, R7, back7⟩

set_option maxRecDepth 100000 in
set_option maxHeartbeats 4000000 in
theorem c_F2 {w : World} {b : Nat} {Fp : Nat → Prop} {A : List N3} {most : Int} (H : ArenaAt w b Fp A most) (hW : Wf A) (hm : (A.length : Int) ≤ most) (hm2 : most ≤ 262144) {b2 b3 : Nat} (fda fdb fsa fsb fp fsl fsh fdl fdh : Int) (hb2 : w.heap[b2]? = some (.cells #[.pointer (some ⟨b, 0, none⟩)] 34 (0, 0))) (hb3 : w.heap[b3]? = some (.cells #[.int .u32 fda, .int .i64 fdb, .int .u32 fsa, .int .i64 fsb, .int .i64 fp, .int .u16 fsl, .int .u16 fsh, .int .u16 fdl, .int .u16 fdh] 29 (0, 0))) (hck : fcheck fda fdb fsa fsb fp fsl fsh fdl fdh = 0) (hfdb : -4611686018427387904 ≤ fdb ∧ fdb ≤ 4611686018427387904) (hfsb : -4611686018427387904 ≤ fsb ∧ fsb ≤ 4611686018427387904) (hpr : 0 ≤ fsl ∧ fsh ≤ 65535 ∧ 0 ≤ fdl ∧ fdh ≤ 65535) : Calls Try.prog 54 #[.pointer (some ⟨b2, 0, none⟩), .pointer (some ⟨b3, 0, none⟩)] w fun e w' => ∃ Fp' A' r c, e = .returned (.tuple #[.int .i64 r, .int .i64 c]) ∧ ArenaAt w' b Fp' A' most ∧ Mut Fp Fp' w w' ∧ Res A A' most c (Okn A' r ∧ ∀ v, den A' v r = cubeD (litL 32 fsa 32 (fsb).toNat) v) ∧ (c ≠ 0 → A' = A ∧ r = 0) := by
  have hl2 := hW.len
  have ck := check_of hck
  have hr := ck.2.1
  refine enter 10 Try.ntmps54 Try.func54 rfl (Nat.le_of_ble_eq_true rfl) fun a0 d0 z0 hargs => ?_
  have s0_0 : a0.eval (.tmp 0) = .pointer (some ⟨b2, 0, none⟩) := hargs 0 _ rfl
  have s0_1 : a0.eval (.tmp 1) = .pointer (some ⟨b3, 0, none⟩) := hargs 1 _ rfl
  have x0 := Touch.refl Fp w
  refine rgs mixed 10 [.eq (.int .i64 0), .eq (.int .i64 0)] [[], []] d0 z0 (by kernel_rfl) ⟨Ov rfl rfl fun _ _ T _ => ex_assign rfl, Ov rfl rfl fun _ _ T _ => ex_assign rfl, trivial⟩ ?_
  intro a1 w1 d1 z1 t1 e1 q1
  refine wp_seq ?_
  refine seq_begin ?_
  have hb2_3 := (Ext.keep t1 hb2)
  refine sp z1 rfl rfl (ex_load ((q1 0 rfl).trans s0_0) (Try.isAgg34 _) (cell_of hb2_3 rfl)) ?_; intro a2 u2 z2
  refine sp z2 rfl rfl (ex_fieldAddr ((u2.past 1 rfl).trans ((q1 1 rfl).trans s0_1)) (fa_29_1 _ _ _)) ?_; intro a4 u4 z4
  have hb3_6 := (Ext.keep t1 hb3)
  refine sp z4 rfl rfl (ex_loadAgg (cs := [.int .u32 fsa, .int .i64 fsb]) (u4.here _ rfl) (Try.isAgg24 _) (Try.sizeOf24 _) (cells_of (off := 2) hb3_6 rfl)) ?_; intro a5 u5 z5
  have H_8 := (ArenaAt.keep H t1)
  refine sc z5 rfl rfl (exl_call Try.func50 rfl rfl (cons_ops ((u5.past 4 rfl).trans ((u4.past 4 rfl).trans (u2.here _ rfl))) (cons_ops rfl (cons_ops (u5.here _ rfl) nil_ops)))) (c_Prefix H_8 hW hm hm2 32 fsa fsb (by omega) (right_of hr) hr) ?_
  rintro e7 w7 ⟨Fp7, A7, r7, c7, he7, H7, m7, R7, back7, more7⟩; refine ⟨_, he7, ?_⟩; intro a7 u7 z7
  have x9 := (Touch.trans x0 (Ext.touch t1))
  have i10 := Mut.inF m7 x9 (fun jQ hQ => Or.inl hQ)
  refine sp z7 rfl rfl (ex_extract (u7.here _ rfl) rfl) ?_; intro a11 u11 z11
  refine sp z11 rfl rfl (ex_extract ((u11.past 7 rfl).trans (u7.here _ rfl)) rfl) ?_; intro a12 u12 z12
  refine sp z12 rfl rfl (ex_assign ((u12.past 8 rfl).trans (u11.here _ rfl))) ?_; intro a13 u13 z13
  refine sp z13 rfl rfl (ex_assign ((u13.past 9 rfl).trans (u12.here _ rfl))) ?_; intro a14 u14 z14
  have d15 := (u14.defs.trans (u13.defs.trans (u12.defs.trans (u11.defs.trans (u7.defs.trans (u5.defs.trans (u4.defs.trans (u2.defs.trans d1))))))))
  refine seq_end ?_
  refine then_norm ?_
  refine wp_ret ?_
  have s16_2 : a13.eval (.tmp 2) = .int .i64 r7 := (u13.here _ rfl)
  have s17_2 := ((u14.past 2 rfl).trans s16_2)
  have s18_3 : a14.eval (.tmp 3) = .int .i64 c7 := (u14.here _ rfl)
  repeat (first | (with_reducible refine then_ret ?_) | (with_reducible refine block_ret ?_))
  refine rett (rs := [.tmp 2, .tmp 3]) (vs := [.int .i64 r7, .int .i64 c7]) Try.results54 ⟨s17_2, ⟨s18_3, trivial⟩⟩ (by simp) d15 ?_
  have x19 := (Touch.mut x9 m7 (fun jQ hQ => Or.inl hQ))
  exact ⟨_, _, _, _, rfl, H7, ⟨x19, i10⟩, R7, back7⟩

set_option maxRecDepth 100000 in
set_option maxHeartbeats 4000000 in
theorem c_F4 {w : World} {b : Nat} {Fp : Nat → Prop} {A : List N3} {most : Int} (H : ArenaAt w b Fp A most) (hW : Wf A) (hm : (A.length : Int) ≤ most) (hm2 : most ≤ 262144) {b2 b3 : Nat} (fda fdb fsa fsb fp fsl fsh fdl fdh : Int) (hb2 : w.heap[b2]? = some (.cells #[.pointer (some ⟨b, 0, none⟩)] 34 (0, 0))) (hb3 : w.heap[b3]? = some (.cells #[.int .u32 fda, .int .i64 fdb, .int .u32 fsa, .int .i64 fsb, .int .i64 fp, .int .u16 fsl, .int .u16 fsh, .int .u16 fdl, .int .u16 fdh] 29 (0, 0))) (hck : fcheck fda fdb fsa fsb fp fsl fsh fdl fdh = 0) (hfdb : -4611686018427387904 ≤ fdb ∧ fdb ≤ 4611686018427387904) (hfsb : -4611686018427387904 ≤ fsb ∧ fsb ≤ 4611686018427387904) (hpr : 0 ≤ fsl ∧ fsh ≤ 65535 ∧ 0 ≤ fdl ∧ fdh ≤ 65535) : Calls Try.prog 58 #[.pointer (some ⟨b2, 0, none⟩), .pointer (some ⟨b3, 0, none⟩)] w fun e w' => ∃ Fp' A' r c, e = .returned (.tuple #[.int .i64 r, .int .i64 c]) ∧ ArenaAt w' b Fp' A' most ∧ Mut Fp Fp' w w' ∧ Res A A' most c (Okn A' r ∧ ∃ L, Blks L fsl (fsh + 1) ∧ ∀ v, den A' v r = L.any fun x => cubeD (litL 72 x.1 16 x.2.toNat) v) ∧ (c ≠ 0 → A' = A ∧ r = 0) := by
  have hl2 := hW.len
  have ck := check_of hck
  refine enter 10 Try.ntmps58 Try.func58 rfl (Nat.le_of_ble_eq_true rfl) fun a0 d0 z0 hargs => ?_
  have s0_0 : a0.eval (.tmp 0) = .pointer (some ⟨b2, 0, none⟩) := hargs 0 _ rfl
  have s0_1 : a0.eval (.tmp 1) = .pointer (some ⟨b3, 0, none⟩) := hargs 1 _ rfl
  have x0 := Touch.refl Fp w
  refine rgs mixed 10 [.eq (.int .i64 0), .eq (.int .i64 0)] [[], []] d0 z0 (by kernel_rfl) ⟨Ov rfl rfl fun _ _ T _ => ex_assign rfl, Ov rfl rfl fun _ _ T _ => ex_assign rfl, trivial⟩ ?_
  intro a1 w1 d1 z1 t1 e1 q1
  refine wp_seq ?_
  refine seq_begin ?_
  have hb2_3 := (Ext.keep t1 hb2)
  refine sp z1 rfl rfl (ex_load ((q1 0 rfl).trans s0_0) (Try.isAgg34 _) (cell_of hb2_3 rfl)) ?_; intro a2 u2 z2
  refine sp z2 rfl rfl (ex_fieldAddr ((u2.past 1 rfl).trans ((q1 1 rfl).trans s0_1)) (fa_29_3 _ _ _)) ?_; intro a4 u4 z4
  have hb3_6 := (Ext.keep t1 hb3)
  refine sp z4 rfl rfl (ex_loadAgg (cs := [.int .u16 fsl, .int .u16 fsh]) (u4.here _ rfl) (Try.isAgg27 _) (Try.sizeOf27 _) (cells_of (off := 5) hb3_6 rfl)) ?_; intro a5 u5 z5
  have H_8 := (ArenaAt.keep H t1)
  refine sc z5 rfl rfl (exl_call Try.func59 rfl rfl (cons_ops ((u5.past 4 rfl).trans ((u4.past 4 rfl).trans (u2.here _ rfl))) (cons_ops rfl (cons_ops (u5.here _ rfl) nil_ops)))) (c_Range H_8 hW hm hm2 72 fsl fsh (by omega) (by omega) (by omega) (by omega)) ?_
  rintro e7 w7 ⟨Fp7, A7, r7, c7, he7, H7, m7, R7, back7⟩; refine ⟨_, he7, ?_⟩; intro a7 u7 z7
  have x9 := (Touch.trans x0 (Ext.touch t1))
  have i10 := Mut.inF m7 x9 (fun jQ hQ => Or.inl hQ)
  refine sp z7 rfl rfl (ex_extract (u7.here _ rfl) rfl) ?_; intro a11 u11 z11
  refine sp z11 rfl rfl (ex_extract ((u11.past 7 rfl).trans (u7.here _ rfl)) rfl) ?_; intro a12 u12 z12
  refine sp z12 rfl rfl (ex_assign ((u12.past 8 rfl).trans (u11.here _ rfl))) ?_; intro a13 u13 z13
  refine sp z13 rfl rfl (ex_assign ((u13.past 9 rfl).trans (u12.here _ rfl))) ?_; intro a14 u14 z14
  have d15 := (u14.defs.trans (u13.defs.trans (u12.defs.trans (u11.defs.trans (u7.defs.trans (u5.defs.trans (u4.defs.trans (u2.defs.trans d1))))))))
  refine seq_end ?_
  refine then_norm ?_
  refine wp_ret ?_
  have s16_2 : a13.eval (.tmp 2) = .int .i64 r7 := (u13.here _ rfl)
  have s17_2 := ((u14.past 2 rfl).trans s16_2)
  have s18_3 : a14.eval (.tmp 3) = .int .i64 c7 := (u14.here _ rfl)
  repeat (first | (with_reducible refine then_ret ?_) | (with_reducible refine block_ret ?_))
  refine rett (rs := [.tmp 2, .tmp 3]) (vs := [.int .i64 r7, .int .i64 c7]) Try.results58 ⟨s17_2, ⟨s18_3, trivial⟩⟩ (by simp) d15 ?_
  have x19 := (Touch.mut x9 m7 (fun jQ hQ => Or.inl hQ))
  exact ⟨_, _, _, _, rfl, H7, ⟨x19, i10⟩, R7, back7⟩

set_option maxRecDepth 100000 in
set_option maxHeartbeats 4000000 in
theorem c_F5 {w : World} {b : Nat} {Fp : Nat → Prop} {A : List N3} {most : Int} (H : ArenaAt w b Fp A most) (hW : Wf A) (hm : (A.length : Int) ≤ most) (hm2 : most ≤ 262144) {b2 b3 : Nat} (fda fdb fsa fsb fp fsl fsh fdl fdh : Int) (hb2 : w.heap[b2]? = some (.cells #[.pointer (some ⟨b, 0, none⟩)] 34 (0, 0))) (hb3 : w.heap[b3]? = some (.cells #[.int .u32 fda, .int .i64 fdb, .int .u32 fsa, .int .i64 fsb, .int .i64 fp, .int .u16 fsl, .int .u16 fsh, .int .u16 fdl, .int .u16 fdh] 29 (0, 0))) (hck : fcheck fda fdb fsa fsb fp fsl fsh fdl fdh = 0) (hfdb : -4611686018427387904 ≤ fdb ∧ fdb ≤ 4611686018427387904) (hfsb : -4611686018427387904 ≤ fsb ∧ fsb ≤ 4611686018427387904) (hpr : 0 ≤ fsl ∧ fsh ≤ 65535 ∧ 0 ≤ fdl ∧ fdh ≤ 65535) : Calls Try.prog 60 #[.pointer (some ⟨b2, 0, none⟩), .pointer (some ⟨b3, 0, none⟩)] w fun e w' => ∃ Fp' A' r c, e = .returned (.tuple #[.int .i64 r, .int .i64 c]) ∧ ArenaAt w' b Fp' A' most ∧ Mut Fp Fp' w w' ∧ Res A A' most c (Okn A' r ∧ ∃ L, Blks L fdl (fdh + 1) ∧ ∀ v, den A' v r = L.any fun x => cubeD (litL 88 x.1 16 x.2.toNat) v) ∧ (c ≠ 0 → A' = A ∧ r = 0) := by
  have hl2 := hW.len
  have ck := check_of hck
  refine enter 10 Try.ntmps60 Try.func60 rfl (Nat.le_of_ble_eq_true rfl) fun a0 d0 z0 hargs => ?_
  have s0_0 : a0.eval (.tmp 0) = .pointer (some ⟨b2, 0, none⟩) := hargs 0 _ rfl
  have s0_1 : a0.eval (.tmp 1) = .pointer (some ⟨b3, 0, none⟩) := hargs 1 _ rfl
  have x0 := Touch.refl Fp w
  refine rgs mixed 10 [.eq (.int .i64 0), .eq (.int .i64 0)] [[], []] d0 z0 (by kernel_rfl) ⟨Ov rfl rfl fun _ _ T _ => ex_assign rfl, Ov rfl rfl fun _ _ T _ => ex_assign rfl, trivial⟩ ?_
  intro a1 w1 d1 z1 t1 e1 q1
  refine wp_seq ?_
  refine seq_begin ?_
  have hb2_3 := (Ext.keep t1 hb2)
  refine sp z1 rfl rfl (ex_load ((q1 0 rfl).trans s0_0) (Try.isAgg34 _) (cell_of hb2_3 rfl)) ?_; intro a2 u2 z2
  refine sp z2 rfl rfl (ex_fieldAddr ((u2.past 1 rfl).trans ((q1 1 rfl).trans s0_1)) (fa_29_4 _ _ _)) ?_; intro a4 u4 z4
  have hb3_6 := (Ext.keep t1 hb3)
  refine sp z4 rfl rfl (ex_loadAgg (cs := [.int .u16 fdl, .int .u16 fdh]) (u4.here _ rfl) (Try.isAgg27 _) (Try.sizeOf27 _) (cells_of (off := 7) hb3_6 rfl)) ?_; intro a5 u5 z5
  have H_8 := (ArenaAt.keep H t1)
  refine sc z5 rfl rfl (exl_call Try.func59 rfl rfl (cons_ops ((u5.past 4 rfl).trans ((u4.past 4 rfl).trans (u2.here _ rfl))) (cons_ops rfl (cons_ops (u5.here _ rfl) nil_ops)))) (c_Range H_8 hW hm hm2 88 fdl fdh (by omega) (by omega) (by omega) (by omega)) ?_
  rintro e7 w7 ⟨Fp7, A7, r7, c7, he7, H7, m7, R7, back7⟩; refine ⟨_, he7, ?_⟩; intro a7 u7 z7
  have x9 := (Touch.trans x0 (Ext.touch t1))
  have i10 := Mut.inF m7 x9 (fun jQ hQ => Or.inl hQ)
  refine sp z7 rfl rfl (ex_extract (u7.here _ rfl) rfl) ?_; intro a11 u11 z11
  refine sp z11 rfl rfl (ex_extract ((u11.past 7 rfl).trans (u7.here _ rfl)) rfl) ?_; intro a12 u12 z12
  refine sp z12 rfl rfl (ex_assign ((u12.past 8 rfl).trans (u11.here _ rfl))) ?_; intro a13 u13 z13
  refine sp z13 rfl rfl (ex_assign ((u13.past 9 rfl).trans (u12.here _ rfl))) ?_; intro a14 u14 z14
  have d15 := (u14.defs.trans (u13.defs.trans (u12.defs.trans (u11.defs.trans (u7.defs.trans (u5.defs.trans (u4.defs.trans (u2.defs.trans d1))))))))
  refine seq_end ?_
  refine then_norm ?_
  refine wp_ret ?_
  have s16_2 : a13.eval (.tmp 2) = .int .i64 r7 := (u13.here _ rfl)
  have s17_2 := ((u14.past 2 rfl).trans s16_2)
  have s18_3 : a14.eval (.tmp 3) = .int .i64 c7 := (u14.here _ rfl)
  repeat (first | (with_reducible refine then_ret ?_) | (with_reducible refine block_ret ?_))
  refine rett (rs := [.tmp 2, .tmp 3]) (vs := [.int .i64 r7, .int .i64 c7]) Try.results60 ⟨s17_2, ⟨s18_3, trivial⟩⟩ (by simp) d15 ?_
  have x19 := (Touch.mut x9 m7 (fun jQ hQ => Or.inl hQ))
  exact ⟨_, _, _, _, rfl, H7, ⟨x19, i10⟩, R7, back7⟩


theorem c_CubeF {w : World} {b : Nat} {Fp : Nat → Prop} {A : List N3} {most : Int} {Q : Option Addr} {L : List Lt} {cq nl : Nat} (hnl : nl = L.length) (H : ArenaAt w b Fp A most) (hW : Wf A) (hm : (A.length : Int) ≤ most) (hm2 : most ≤ 262144) (HL : w.ownsRow 0 133 2 (.slice Q nl cq) nl (flat lvs_ L)) (hL : Cubic L) (hLl : L.length ≤ 104) (hout : ∀ j, (Value.slice Q nl cq).ownBlock = some j → ¬ Fp j) :
    Calls Try.prog 56 #[.pointer (some ⟨b, 0, none⟩), .slice Q nl cq] w fun e w' => ∃ Fp', e = .returned (.tuple #[.int .i64 (cubeF A most L).2.1, .int .i64 (cubeF A most L).2.2]) ∧ ArenaAt w' b Fp' (cubeF A most L).1 most ∧ Mut Fp Fp' w w' ∧
      Res A (cubeF A most L).1 most (cubeF A most L).2.2 (Okn (cubeF A most L).1 (cubeF A most L).2.1 ∧ ∀ v, den (cubeF A most L).1 v (cubeF A most L).2.1 = cubeD L v) ∧ ((cubeF A most L).2.2 ≠ 0 → (cubeF A most L).1 = A ∧ (cubeF A most L).2.1 = 0) :=
  Calls.mono (c_Cube hnl H hW hm hm2 HL hL hLl hout) fun e w' ⟨Fp', A', r, c, he, h1, h2, h3, h4, h5, h6⟩ => by
    rw [← h6]; exact ⟨Fp', he, h1, h2, h3, h4⟩

set_option maxRecDepth 100000 in
set_option maxHeartbeats 4000000 in
theorem c_F3 {w : World} {b : Nat} {Fp : Nat → Prop} {A : List N3} {most : Int} (H : ArenaAt w b Fp A most) (hW : Wf A) (hm : (A.length : Int) ≤ most) (hm2 : most ≤ 262144) {b2 b3 : Nat} (fda fdb fsa fsb fp fsl fsh fdl fdh : Int) (hb2 : w.heap[b2]? = some (.cells #[.pointer (some ⟨b, 0, none⟩)] 34 (0, 0))) (hb3 : w.heap[b3]? = some (.cells #[.int .u32 fda, .int .i64 fdb, .int .u32 fsa, .int .i64 fsb, .int .i64 fp, .int .u16 fsl, .int .u16 fsh, .int .u16 fdl, .int .u16 fdh] 29 (0, 0))) (hck : fcheck fda fdb fsa fsb fp fsl fsh fdl fdh = 0) (hfdb : -4611686018427387904 ≤ fdb ∧ fdb ≤ 4611686018427387904) (hfsb : -4611686018427387904 ≤ fsb ∧ fsb ≤ 4611686018427387904) (hpr : 0 ≤ fsl ∧ fsh ≤ 65535 ∧ 0 ≤ fdl ∧ fdh ≤ 65535) : Calls Try.prog 55 #[.pointer (some ⟨b3, 0, none⟩), .pointer (some ⟨b2, 0, none⟩)] w fun e w' => ∃ Fp' A' r c, e = .returned (.tuple #[.int .i64 r, .int .i64 c]) ∧ ArenaAt w' b Fp' A' most ∧ Mut Fp Fp' w w' ∧ Res A A' most c (Okn A' r ∧ ∀ v, den A' v r = if fp = -1 then true else cubeD (litL 64 fp 8 8) v) ∧ (c ≠ 0 → A' = A ∧ r = 0) := by
  have hl2 := hW.len
  have ck := check_of hck
  refine enter 15 Try.ntmps55 Try.func55 rfl (Nat.le_of_ble_eq_true rfl) fun a0 d0 z0 hargs => ?_
  have s0_0 : a0.eval (.tmp 0) = .pointer (some ⟨b3, 0, none⟩) := hargs 0 _ rfl
  have s0_1 : a0.eval (.tmp 1) = .pointer (some ⟨b2, 0, none⟩) := hargs 1 _ rfl
  have x0 := Touch.refl Fp w
  refine rgs mixed 15 [.eq (.int .i64 0), .eq (.int .i64 0)] [[], []] d0 z0 (by kernel_rfl) ⟨Ov rfl rfl fun _ _ T _ => ex_assign rfl, Ov rfl rfl fun _ _ T _ => ex_assign rfl, trivial⟩ ?_
  intro a1 w1 d1 z1 t1 e1 q1
  refine wp_seq_k fun K2 hK2 => ?_
  have s3_0 := ((q1 0 rfl).trans s0_0)
  have hb3_4 := (Ext.keep t1 hb3)
  refine rgs mixed 15 [.eq (.pointer (some ⟨b3, 4, none⟩)), .eq (.int .i64 fp), .eq (.bool (decide (fp = (-1))))] [[(0, none)], [(4, some 0)], [(5, some 1)]] d1 z1 (by kernel_rfl) ⟨Ov rfl rfl fun _ _ T ⟨k0, _⟩ => ex_fieldAddr (k0.trans s3_0) (fa_29_2 _ _ _), Ov rfl rfl fun _ _ T ⟨k4, _⟩ => ex_load k4 (Try.isAgg3 _) (cell_of (Ext.keep T.ext hb3_4) rfl), Ov rfl rfl fun _ _ T ⟨k5, _⟩ => ex_eql k5 rfl, trivial⟩ ?_
  intro a5 w5 d5 z5 t5 e5 q5
  by_cases c6 : fp = (-1)
  · have y6 := decide_eq_true c6
    have s7_6 : a5.eval (.tmp 6) = .bool (decide (fp = (-1))) := e5.2.2.1
    refine wp_cond_true (s7_6.trans (by rw [y6])) ?_
    refine rgs mixed 15 [.eq (.int .i64 1), .eq (.int .i64 0)] [[], []] d5 z5 (by kernel_rfl) ⟨Ov rfl rfl fun _ _ T _ => ex_assign rfl, Ov rfl rfl fun _ _ T _ => ex_assign rfl, trivial⟩ ?_
    intro a8 w8 d8 z8 t8 e8 q8
    refine wp_ret ?_
    have s9_2 : a8.eval (.tmp 2) = .int .i64 1 := e8.1
    have s10_3 : a8.eval (.tmp 3) = .int .i64 0 := e8.2.1
    repeat (first | (with_reducible refine then_ret ?_) | (with_reducible refine block_ret ?_))
    refine rett (rs := [.tmp 2, .tmp 3]) (vs := [.int .i64 1, .int .i64 0]) Try.results55 ⟨s9_2, ⟨s10_3, trivial⟩⟩ (by simp) d8 ?_
    have H_11 := (ArenaAt.keep (ArenaAt.keep (ArenaAt.keep H t1) t5) t8)
    have x12 := (Touch.trans (Touch.trans (Touch.trans x0 (Ext.touch t1)) (Ext.touch t5)) (Ext.touch t8))
    exact ⟨_, _, _, _, rfl, H_11, ⟨x12, fun jQ hQ => .inl hQ⟩, ⟨hW, List.prefix_refl _, hm, .inl ⟨rfl, ⟨by omega, by omega⟩, fun v => by rw [if_pos c6]; rfl⟩⟩, fun hQ => absurd rfl hQ⟩
  · have y6 := decide_eq_false c6
    have s13_6 : a5.eval (.tmp 6) = .bool (decide (fp = (-1))) := e5.2.2.1
    refine wp_cond_false (s13_6.trans (by rw [y6])) ?_
    refine wp_skip ?_
    repeat (with_reducible refine block_norm ?_)
    refine hK2 _ _ ?_
    have s14_1 := ((q5 1 rfl).trans ((q1 1 rfl).trans s0_1))
    have hb2_15 := (Ext.keep t5 (Ext.keep t1 hb2))
    have s16_0 := ((q5 0 rfl).trans s3_0)
    have hb3_17 := (Ext.keep t5 hb3_4)
    have H_18 := (ArenaAt.keep (ArenaAt.keep H t1) t5)
    refine wp_seq ?_
    refine rw1 mixed 15 5 (fun wQ => ∃ Fp', ArenaAt wQ b Fp' (cubeF A most (litL 64 fp 8 (Int.toNat 8))).1 most ∧ Mut Fp Fp' w5 wQ ∧ Res A (cubeF A most (litL 64 fp 8 (Int.toNat 8))).1 most (cubeF A most (litL 64 fp 8 (Int.toNat 8))).2.2 (Okn (cubeF A most (litL 64 fp 8 (Int.toNat 8))).1 (cubeF A most (litL 64 fp 8 (Int.toNat 8))).2.1 ∧ ∀ v, den (cubeF A most (litL 64 fp 8 (Int.toNat 8))).1 v (cubeF A most (litL 64 fp 8 (Int.toNat 8))).2.1 = cubeD (litL 64 fp 8 (Int.toNat 8)) v) ∧ ((cubeF A most (litL 64 fp 8 (Int.toNat 8))).2.2 ≠ 0 → (cubeF A most (litL 64 fp 8 (Int.toNat 8))).1 = A ∧ (cubeF A most (litL 64 fp 8 (Int.toNat 8))).2.1 = 0)) (fun {_ _} h k => by obtain ⟨F, h1, h2, h3⟩ := h; exact ⟨F, h1.keep k, h2.ext k, h3⟩) [.eq (.pointer (some ⟨b, 0, none⟩)), .eq (.pointer (some ⟨b3, 4, none⟩)), .eq (.int .i64 fp), .eq (.int .u32 fp), Pd.row w5 133 2 (Int.toNat 8) (flat lvs_ (litL 64 fp 8 (Int.toNat 8))), .eq (.tuple #[.int .i64 ((cubeF A most (litL 64 fp 8 (Int.toNat 8))).2.1), .int .i64 ((cubeF A most (litL 64 fp 8 (Int.toNat 8))).2.2)]), .eq (.int .i64 ((cubeF A most (litL 64 fp 8 (Int.toNat 8))).2.1)), .eq (.int .i64 ((cubeF A most (litL 64 fp 8 (Int.toNat 8))).2.2)), .eq (.int .i64 ((cubeF A most (litL 64 fp 8 (Int.toNat 8))).2.1)), .eq (.int .i64 ((cubeF A most (litL 64 fp 8 (Int.toNat 8))).2.2))] [[(1, none)], [(0, none)], [(8, some 1)], [(9, some 2)], [(10, some 3)], [(7, some 0), (11, some 4)], [(12, some 5)], [(12, some 5)], [(13, some 6)], [(14, some 7)]] d5 z5 (by kernel_rfl) rfl ⟨Z (hI := fun _ _ hQ => hQ) rfl (by kernel_rfl) rfl fun _ _ T ⟨k1, _⟩ => ex_load (k1.trans s14_1) (Try.isAgg34 _) (cell_of (Ext.keep T hb2_15) rfl),
      Z (hI := fun _ _ hQ => hQ) rfl (by kernel_rfl) rfl fun _ _ T ⟨k0, _⟩ => ex_fieldAddr (k0.trans s16_0) (fa_29_2 _ _ _),
      Z (hI := fun _ _ hQ => hQ) rfl (by kernel_rfl) rfl fun _ _ T ⟨k8, _⟩ => ex_load k8 (Try.isAgg3 _) (cell_of (Ext.keep T hb3_17) rfl),
      Z (hI := fun _ _ hQ => hQ) rfl (by kernel_rfl) rfl fun _ _ T ⟨k9, _⟩ => ex_convert k9 (cvn_3_22 (by omega)),
      Zcp (hI := fun _ _ hQ => hQ) rfl (by kernel_rfl) rfl fun _ _ T ⟨k10, _⟩ => ⟨exl_call Try.func57 rfl rfl (cons_ops rfl (cons_ops k10 (cons_ops rfl (cons_ops rfl nil_ops)))), Calls.mono (c_lits 64 fp 8 8 (by omega) (by omega)) (fun _ _ ⟨Q, c, he, ho, hx, hb⟩ => ⟨_, he, hx, Q, c, rfl, ho, fun j hj => Nat.le_trans T.size (hb j hj)⟩)⟩,
      Zw (m := 0) rfl (by kernel_rfl) (by kernel_rfl) fun _ _ I ⟨k7, ⟨Q3, cq3, k11, ho3, hb3⟩, _⟩ => .plain rfl (.call (exl_call Try.func56 rfl rfl (cons_ops k7 (cons_ops k11 nil_ops))) (c_CubeF (litL_len _ _ _ _).symm (ArenaAt.keep H_18 I) hW hm hm2 ho3 (litL_cubic _ (by omega) (by omega)) (by rw [litL_len]; omega) (row_out hb3 (fun kQ hQ => ArenaAt.lt H_18 hQ))) (fun _ _ ⟨F, he, h1, h2, h3⟩ => ⟨_, he, ⟨old_mut h2 (fun kQ hQ => ArenaAt.lt H_18 hQ), F, h1, Ext.mut I h2 (fun kQ hQ => ArenaAt.lt H_18 hQ), h3⟩, rfl⟩)),
      Ov rfl rfl fun _ _ T ⟨k12, _⟩ => ex_extract k12 rfl,
      Ov rfl rfl fun _ _ T ⟨k12, _⟩ => ex_extract k12 rfl,
      Ov rfl rfl fun _ _ T ⟨k13, _⟩ => ex_assign k13,
      Ov rfl rfl fun _ _ T ⟨k14, _⟩ => ex_assign k14,
      trivial⟩ ?_
    rintro a19 w19 d19 z19 ⟨Fp19, H19, m19, R19, back19⟩ e19 q19
    have x20 := (Touch.trans (Touch.trans x0 (Ext.touch t1)) (Ext.touch t5))
    have i21 := Mut.inF m19 x20 (fun jQ hQ => Or.inl hQ)
    refine wp_ret ?_
    have s22_2 : a19.eval (.tmp 2) = .int .i64 ((cubeF A most (litL 64 fp 8 (Int.toNat 8))).2.1) := e19.2.2.2.2.2.2.2.2.1
    have s23_3 : a19.eval (.tmp 3) = .int .i64 ((cubeF A most (litL 64 fp 8 (Int.toNat 8))).2.2) := e19.2.2.2.2.2.2.2.2.2.1
    repeat (first | (with_reducible refine then_ret ?_) | (with_reducible refine block_ret ?_))
    refine rett (rs := [.tmp 2, .tmp 3]) (vs := [.int .i64 ((cubeF A most (litL 64 fp 8 (Int.toNat 8))).2.1), .int .i64 ((cubeF A most (litL 64 fp 8 (Int.toNat 8))).2.2)]) Try.results55 ⟨s22_2, ⟨s23_3, trivial⟩⟩ (by simp) d19 ?_
    have x24 := (Touch.mut x20 m19 (fun jQ hQ => Or.inl hQ))
    exact ⟨_, _, _, _, rfl, H19, ⟨x24, i21⟩, (R19.imp fun hQ => ⟨hQ.1, fun v => by rw [hQ.2 v, if_neg c6]; rfl⟩), back19⟩

end Go.Proofs.Yticodddigaiipaa
