/-
 Contracts of functions of the given program, each proved by a walk through its code: what a call answers, and what it leaves of memory; conditions: those ahead of each theorem's colon.
-/
import Derived.Test.YticodddigaiipaaSatS10
import Derived.Test.YticodddigaiipaaSatK20
import Derived.Test.YticodddigaiipaaSatL12
set_option linter.unusedVariables false
set_option linter.unusedSimpArgs false
namespace Go.Proofs.Yticodddigaiipaa
open Go.RowKit


def wv (N : Nat) : Value := .agg #[.int .u64 (hiW N), .int .u64 (loW N)]
theorem wv_0 : wv 0 = .agg #[.int .u64 0, .int .u64 0] := by simp [wv, hiW, loW]
/-- what a count remembers is right -/
def MemoW (w : World) (ms : Nat) (A : List N3) : Prop := ∃ S n, MapF w ms iv wv S n ∧ ∀ p x, S p = some x → x = cntN A p
theorem MemoW.touch {w w' : World} {ms b : Nat} {A : List N3} (h : MemoW w ms A) (t : Touch (fun k => k = b) w w') (hn : ms ≠ b) : MemoW w' ms A := by
 obtain ⟨S, n, hm, hs⟩ := h
 exact ⟨S, n, MapF.same hm (t.block _ (MapF.lt hm) hn), hs⟩
theorem memo_put {A : List N3} {S : Int → Option Nat} (h : ∀ p x, S p = some x → x = cntN A p) {f : Int} {y : Nat} (hy : y = cntN A f) : ∀ p x, (fun zQ => if zQ = f then some y else S zQ) p = some x → x = cntN A p := fun p x hp => by
 simp only at hp
 by_cases e : p = f
 ·rw [if_pos e] at hp; cases hp; rw [e]; exact hy
 ·rw [if_neg e] at hp; exact h p x hp
theorem nodeV_1 {A : List N3} (h : Wf A) {f : Int} (hf : Okn A f) : (nodeV A f).1 = lev A f := by
 unfold nodeV lev
 unfold Okn at hf
 by_cases h1 : f ≤ 1
 ·rw [if_pos h1]
  by_cases h0 : f = 0
  ·subst h0; rw [h.lo]; rfl
  ·obtain rfl : f = 1 := by omega
   rw [h.hi]; rfl
 ·rw [if_neg h1]
theorem nodeV_2 {A : List N3} {f : Int} (h2 : 2 ≤ f) : nodeV A f = nd A f := by unfold nodeV; rw [if_neg (by omega)]
/-- one part of a count -/
def cpart (A : List N3) (f p : Int) : Nat := cntN A p * 2 ^ (((nodeV A p).1 - (nodeV A f).1) - 1).toNat
def csum (A : List N3) (f : Int) : Nat → Nat
 | 0 => 0
 | 1 => cpart A f (nodeV A f).2.1
 | _ => cpart A f (nodeV A f).2.1 + cpart A f (nodeV A f).2.2
theorem csum_2 {A : List N3} (h : Wf A) {f : Int} (hf : Okn A f) (h2 : 2 ≤ f) : csum A f 2 = cntN A f := by
 unfold Okn at hf
 have n := h.node f h2 (by omega)
 rw [cnt_step h h2 (by omega)]
 simp only [csum, cpart, nodeV_2 h2]
 rw [nodeV_1 h ⟨by omega, by omega⟩, nodeV_1 h ⟨by omega, by omega⟩]
theorem csum_0 {A : List N3} {f : Int} {i : Nat} (hi : (i : Int) = 0) : csum A f i + cpart A f (nodeV A f).2.1 = csum A f (i + 1) := by
 obtain rfl : i = 0 := by omega
 simp [csum]
theorem csum_1 {A : List N3} {f : Int} {i : Nat} (hi : (i : Int) = 1) : csum A f i + cpart A f (nodeV A f).2.2 = csum A f (i + 1) := by
 obtain rfl : i = 1 := by omega
 simp [csum]
theorem cntN_lt {A : List N3} (h : Wf A) {f : Int} (hf : Okn A f) : cntN A f < 340282366920938463463374607431768211456 := by
 have h1 := cntN_le h hf
 have h2 : 2 ^ (104 - lev A f).toNat ≤ 2 ^ 104 := Nat.pow_le_pow_right (by omega) (by have := (lev_le h hf).1; omega)
 exact Nat.lt_of_le_of_lt (Nat.le_trans h1 h2) (by decide)
theorem csum_lt {A : List N3} (h : Wf A) {f : Int} (hf : Okn A f) (h2 : 2 ≤ f) : cpart A f (nodeV A f).2.1 + cpart A f (nodeV A f).2.2 < 340282366920938463463374607431768211456 := by
 have := csum_2 h hf h2
 have h3 := cntN_lt h hf
 rw [← this] at h3; exact h3
theorem csum_le (A : List N3) (f : Int) (i : Nat) : (i : Int) = 0 ∧ csum A f i = 0 ∨ (i : Int) = 1 ∧ csum A f i = cpart A f (nodeV A f).2.1 ∨ 2 ≤ (i : Int) := by
 match i with
 | 0 => exact .inl ⟨rfl, rfl⟩
 | 1 => exact .inr (.inl ⟨rfl, rfl⟩)
 | i + 2 => exact .inr (.inr (by omega))

set_option maxRecDepth 100000 in
set_option maxHeartbeats 4000000 in
theorem c_count_ : ∀ (N : Nat) {w : World} {b ms : Nat} {Fp : Nat → Prop} {A : List N3} {most : Int} (H : ArenaAt w b Fp A most) (HM : MemoW w ms A) (hout : ¬ Fp ms) (hW : Wf A) (f : Int) (hf : Okn A f) (hN : 104 - lev A f ≤ N), Calls Try.prog 76 #[.pointer (some ⟨b, 0, none⟩), .int .i64 f, .map (some ms)] w fun e w' => e = .returned (wv (cntN A f)) ∧ Touch (fun kQ => kQ = ms) w w' ∧ MemoW w' ms A := by
 intro N
 induction N using Nat.strongRecOn with
 | _ N ihs =>
 intro w b ms Fp A most H HM hout hW f hf hN
 have ih : ∀ {w : World} {b ms : Nat} {Fp : Nat → Prop} {A : List N3} {most : Int} (H : ArenaAt w b Fp A most) (HM : MemoW w ms A) (hout : ¬ Fp ms) (hW : Wf A) (f : Int) (hf : Okn A f) (hN' : 104 - lev A f < N), Calls Try.prog 76 #[.pointer (some ⟨b, 0, none⟩), .int .i64 f, .map (some ms)] w fun e w' => e = .returned (wv (cntN A f)) ∧ Touch (fun kQ => kQ = ms) w w' ∧ MemoW w' ms A := @fun w b ms Fp A most H HM hout hW f hf h => ihs (104 - lev A f).toNat (by have := (lev_le hW hf).2.1; omega) H HM hout hW f hf (by omega)
 have hf' := hf; unfold Okn at hf'
 refine enter 69 Try.ntmps76 Try.func76 rfl (Nat.le_of_ble_eq_true rfl) fun a0 d0 z0 hargs => ?_
 have s0_0 : a0.eval (.tmp 0) = .pointer (some ⟨b, 0, none⟩) := hargs 0 _ rfl
 have s0_1 : a0.eval (.tmp 1) = .int .i64 f := hargs 1 _ rfl
 have s0_2 : a0.eval (.tmp 2) = .map (some ms) := hargs 2 _ rfl
 have x0 := Touch.refl (fun kQ => kQ = ms) w
 obtain ⟨S0, n0, hm0, hs0⟩ := HM
 refine wp_seq ?_
 refine seq_begin ?_
 refine salloc z0 rfl (zv_57 _) ?_; intro b1 w1 a1 t1 g1 hb1 u1 z1
 have n2_ms_b1 := ne_lt (MapF.lt hm0) g1
 have o3 : ¬ Fp b1 := fun hQ => by have := ArenaAt.lt H hQ; omega
 have yb1_4 := Nat.le_trans (Touch.size x0) g1
 have d5 := (u1.defs.trans d0)
 refine seq_end ?_
 refine then_norm ?_
 refine wp_seq_k fun K6 hK6 => ?_
 have s7_1 := ((u1.past 1 rfl).trans s0_1)
 refine rgs mixed 69 [.eq (.int .i64 f)] [[(1, none)]] d5 z1 (by kernel_rfl) ⟨Ov rfl rfl fun _ _ T ⟨k1, _⟩ => ex_move (k1.trans s7_1), trivial⟩ ?_
 intro a8 w8 d8 z8 t8 e8 q8
 refine wp_block ?_
 have s9_18 : a8.eval (.tmp 18) = .int .i64 f := e8.1
 refine rgs mixed 69 [.eq (.bool (decide (f = 0))), .eq (.bool (decide (f = 0)))] [[(18, none)], [(20, some 0)]] d8 z8 (by kernel_rfl) ⟨Ov rfl rfl fun _ _ T ⟨k18, _⟩ => ex_eql (k18.trans s9_18) rfl, Ov rfl rfl fun _ _ T ⟨k20, _⟩ => ex_assign k20, trivial⟩ ?_
 intro a10 w10 d10 z10 t10 e10 q10
 have H_11 := (ArenaAt.keep (ArenaAt.keep (ArenaAt.keep H t1) t8) t10)
 have hm0_12 := (MapF.keep (MapF.keep (MapF.keep hm0 t1) t8) t10)
 have x13 := (Touch.trans (Touch.trans (Touch.trans x0 (Ext.touch t1)) (Ext.touch t8)) (Ext.touch t10))
 by_cases c14 : f = 0
 ·have y14 := decide_eq_true c14
  have s15_19 : a10.eval (.tmp 19) = .bool (decide (f = 0)) := e10.2.1
  refine wp_cond_true (s15_19.trans (by rw [y14])) ?_
  refine wp_seq ?_
  refine seq_begin ?_
  refine sp z10 rfl rfl (exl_build nil_parts (bd_57_ _)) ?_; intro a16 u16 z16
  have hb1_18 := (Ext.keep t10 (Ext.keep t8 hb1))
  refine sstore (cs := [.int .u64 0, .int .u64 0]) (vs := [.int .u64 0, .int .u64 0]) (cs' := [.int .u64 0, .int .u64 0]) z16 rfl ((u16.past 6 rfl).trans ((q10 6 rfl).trans ((q8 6 rfl).trans (u1.here _ rfl)))) (u16.here _ rfl) hb1_18 (Try.sizeOf57 _) rfl rfl (by decide) (Nat.le_of_ble_eq_true rfl) rfl rfl ?_; intro w17 a17 t17 u17 z17
  have d19 := (u17.defs.trans (u16.defs.trans d10))
  refine seq_end ?_
  refine then_norm ?_
  refine wp_ret ?_
  have s20_6 : a1.eval (.tmp 6) = .pointer (some ⟨b1, 0, none⟩) := (u1.here _ rfl)
  have s21_6 := ((u17.past 6 rfl).trans ((u16.past 6 rfl).trans ((q10 6 rfl).trans ((q8 6 rfl).trans s20_6))))
  repeat (first | (with_reducible refine then_ret ?_) | (with_reducible refine block_ret ?_))
  refine retl (rs := [.cell 6 57]) Try.results76 ⟨⟨_, s21_6, run_loadVarA (cs := [.int .u64 0, .int .u64 0]) (Try.isAgg57 _) (Try.sizeOf57 _) (cells_of (off := 0) t17.here rfl)⟩, trivial⟩ d19 ?_
  have x22 := (Touch.turn x13 t17 (Or.inr yb1_4))
  have e0 : f = 0 := by omega
  subst e0
  have hm0_23 := (MapF.same hm0_12 (t17.touch.block _ (MapF.lt hm0_12) n2_ms_b1))
  exact ⟨by rw [cnt_zero, wv_0], x22, ⟨_, _, hm0_23, hs0⟩⟩
 ·have y14 := decide_eq_false c14
  have s24_19 : a10.eval (.tmp 19) = .bool (decide (f = 0)) := e10.2.1
  refine wp_cond_false (s24_19.trans (by rw [y14])) ?_
  have s25_18 := ((q10 18 rfl).trans s9_18)
  refine rgs mixed 69 [.eq (.bool (decide (f = 1))), .eq (.bool (decide (f = 1)))] [[(18, none)], [(23, some 0)]] d10 z10 (by kernel_rfl) ⟨Ov rfl rfl fun _ _ T ⟨k18, _⟩ => ex_eql (k18.trans s25_18) rfl, Ov rfl rfl fun _ _ T ⟨k23, _⟩ => ex_assign k23, trivial⟩ ?_
  intro a26 w26 d26 z26 t26 e26 q26
  have hb1_27 := (Ext.keep t26 (Ext.keep t10 (Ext.keep t8 hb1)))
  by_cases c28 : f = 1
  ·have y28 := decide_eq_true c28
   have s29_22 : a26.eval (.tmp 22) = .bool (decide (f = 1)) := e26.2.1
   refine wp_cond_true (s29_22.trans (by rw [y28])) ?_
   refine wp_seq ?_
   refine seq_begin ?_
   refine scx z26 rfl rfl (exl_call Try.func105 rfl rfl (cons_ops rfl nil_ops)) (c_wofW _) ?_; intro w30 a30 t30 u30 z30
   have hb1_32 := (Ext.keep t30 hb1_27)
   refine sstore (cs := [.int .u64 0, .int .u64 0]) (vs := [.int .u64 (hiW 1), .int .u64 (loW 1)]) (cs' := [.int .u64 (hiW 1), .int .u64 (loW 1)]) z30 rfl ((u30.past 6 rfl).trans ((q26 6 rfl).trans ((q10 6 rfl).trans ((q8 6 rfl).trans (u1.here _ rfl))))) (u30.here _ rfl) hb1_32 (Try.sizeOf57 _) rfl rfl (by decide) (Nat.le_of_ble_eq_true rfl) rfl rfl ?_; intro w31 a31 t31 u31 z31
   have d33 := (u31.defs.trans (u30.defs.trans d26))
   refine seq_end ?_
   refine then_norm ?_
   refine wp_ret ?_
   have s34_6 : a1.eval (.tmp 6) = .pointer (some ⟨b1, 0, none⟩) := (u1.here _ rfl)
   have s35_6 := ((u31.past 6 rfl).trans ((u30.past 6 rfl).trans ((q26 6 rfl).trans ((q10 6 rfl).trans ((q8 6 rfl).trans s34_6)))))
   repeat (first | (with_reducible refine then_ret ?_) | (with_reducible refine block_ret ?_))
   refine retl (rs := [.cell 6 57]) Try.results76 ⟨⟨_, s35_6, run_loadVarA (cs := [.int .u64 (hiW 1), .int .u64 (loW 1)]) (Try.isAgg57 _) (Try.sizeOf57 _) (cells_of (off := 0) t31.here rfl)⟩, trivial⟩ d33 ?_
   have x36 := (Touch.turn (Touch.trans (Touch.trans x13 (Ext.touch t26)) (Ext.touch t30)) t31 (Or.inr yb1_4))
   have e0 : f = 1 := by omega
   subst e0
   have hm0_37 := (MapF.same (MapF.keep (MapF.keep hm0_12 t26) t30) (t31.touch.block _ (MapF.lt (MapF.keep (MapF.keep hm0_12 t26) t30)) n2_ms_b1))
   exact ⟨rfl, x36, ⟨_, _, hm0_37, hs0⟩⟩
  ·have y28 := decide_eq_false c28
   have s38_22 : a26.eval (.tmp 22) = .bool (decide (f = 1)) := e26.2.1
   refine wp_cond_false (s38_22.trans (by rw [y28])) ?_
   refine wp_skip ?_
   repeat (with_reducible refine block_norm ?_)
   refine hK6 _ _ ?_
   refine wp_seq_k fun K39 hK39 => ?_
   refine wp_seq ?_
   refine seq_begin ?_
   have p41 := fr4 u1.past q8 q10 q26
   refine sp z26 rfl rfl (ex_move ((p41 2 rfl).trans s0_2)) ?_; intro a40 u40 z40
   refine sp z40 rfl rfl (ex_move ((u40.past 1 rfl).trans ((q26 1 rfl).trans ((q10 1 rfl).trans ((q8 1 rfl).trans s7_1))))) ?_; intro a42 u42 z42
   rcases hq45 : S0 f with _ | q45
   ·skip
    have hm0_47 := (MapF.keep hm0_12 t26)
    refine sp z42 rfl rfl ((ex_look_ok (xk := f) hm0_47 intK Try.underlying148 (zv_57 _) ((u42.past 26 rfl).trans (u40.here _ rfl)) (u42.here _ rfl)).trans (by first | (rw [hq45]; done) | (rw [hq45]; rfl))) ?_; intro a46 u46 z46
    refine sp z46 rfl rfl (ex_move (u46.here _ rfl)) ?_; intro a48 u48 z48
    refine sp z48 rfl rfl (ex_extract (u48.here _ rfl) rfl) ?_; intro a49 u49 z49
    refine sp z49 rfl rfl (ex_extract ((u49.past 25 rfl).trans (u48.here _ rfl)) rfl) ?_; intro a50 u50 z50
    refine salloc z50 rfl (zv_57 _) ?_; intro b51 w51 a51 t51 g51 hb51 u51 z51
    have n52_ms_b51 := ne_lt (MapF.lt hm0_47) g51
    have n53_b1_b51 := ne_lt (lt_of hb1_27) g51
    have H_55 := (ArenaAt.keep H_11 t26)
    have o54 : ¬ Fp b51 := fun hQ => by have := ArenaAt.lt H_55 hQ; omega
    have x57 := (Touch.trans x13 (Ext.touch t26))
    have yb51_56 := Nat.le_trans (Touch.size x57) g51
    refine sstore (cs := [.int .u64 0, .int .u64 0]) (vs := [.int .u64 0, .int .u64 0]) (cs' := [.int .u64 0, .int .u64 0]) z51 rfl (u51.here _ rfl) ((u51.past 29 rfl).trans ((u50.past 29 rfl).trans (u49.here _ rfl))) hb51 (Try.sizeOf57 _) rfl rfl (by decide) (Nat.le_of_ble_eq_true rfl) rfl rfl ?_; intro w58 a58 t58 u58 z58
    refine sp z58 rfl rfl (ex_assign ((u58.past 30 rfl).trans ((u51.past 30 rfl).trans (u50.here _ rfl)))) ?_; intro a59 u59 z59
    have d60 := (u59.defs.trans (u58.defs.trans (u51.defs.trans (u50.defs.trans (u49.defs.trans (u48.defs.trans (u46.defs.trans (u42.defs.trans (u40.defs.trans d26)))))))))
    refine seq_end ?_
    refine then_norm ?_
    have s61_8 : a59.eval (.tmp 8) = .bool false := (u59.here _ rfl)
    refine rgs mixed 69 [.eq (.bool false)] [[(8, none)]] d60 z59 (by kernel_rfl) ⟨Ov rfl rfl fun _ _ T ⟨k8, _⟩ => ex_move (k8.trans s61_8), trivial⟩ ?_
    intro a62 w62 d62 z62 t62 e62 q62
    have s63_31 : a62.eval (.tmp 31) = .bool false := e62.1
    refine wp_cond_false s63_31 ?_
    refine wp_skip ?_
    repeat (with_reducible refine block_norm ?_)
    refine hK39 _ _ ?_
    have h2f : 2 ≤ f := by omega
    have nf := node_of hW hf (by have := hW.node f h2f (by omega); simp only [lev]; omega)
    refine wp_seq ?_
    refine seq_begin ?_
    have p65 := fr4 u40.past u42.past u46.past u48.past
    have p66 := fr4 u49.past u50.past u51.past u58.past
    refine sp z62 rfl rfl (ex_move ((q62 0 rfl).trans ((u59.past 0 rfl).trans ((p66 0 rfl).trans ((p65 0 rfl).trans ((p41 0 rfl).trans s0_0)))))) ?_; intro a64 u64 z64
    refine sp z64 rfl rfl (ex_move ((u64.past 1 rfl).trans ((q62 1 rfl).trans ((u59.past 1 rfl).trans ((p66 1 rfl).trans ((p65 1 rfl).trans ((q26 1 rfl).trans ((q10 1 rfl).trans ((q8 1 rfl).trans s7_1))))))))) ?_; intro a67 u67 z67
    have H_69 := (ArenaAt.keep (ArenaAt.turn (ArenaAt.keep H_55 t51) t58 o54) t62)
    refine scx z67 rfl rfl (exl_call Try.func75 rfl rfl (cons_ops ((u67.past 34 rfl).trans (u64.here _ rfl)) (cons_ops (u67.here _ rfl) nil_ops))) (c_Node H_69 f (by assumption)) ?_; intro w68 a68 t68 u68 z68
    refine sp z68 rfl rfl (ex_move (u68.here _ rfl)) ?_; intro a70 u70 z70
    refine sp z70 rfl rfl (ex_extract (u70.here _ rfl) rfl) ?_; intro a71 u71 z71
    refine sp z71 rfl rfl (ex_extract ((u71.past 33 rfl).trans (u70.here _ rfl)) rfl) ?_; intro a72 u72 z72
    refine sp z72 rfl rfl (ex_extract ((u72.past 33 rfl).trans ((u71.past 33 rfl).trans (u70.here _ rfl))) rfl) ?_; intro a73 u73 z73
    refine sp z73 rfl rfl (ex_assign ((u73.past 37 rfl).trans ((u72.past 37 rfl).trans (u71.here _ rfl)))) ?_; intro a74 u74 z74
    refine sp z74 rfl rfl (ex_assign ((u74.past 38 rfl).trans ((u73.past 38 rfl).trans (u72.here _ rfl)))) ?_; intro a75 u75 z75
    refine sp z75 rfl rfl (ex_assign ((u75.past 39 rfl).trans ((u74.past 39 rfl).trans (u73.here _ rfl)))) ?_; intro a76 u76 z76
    have d77 := (u76.defs.trans (u75.defs.trans (u74.defs.trans (u73.defs.trans (u72.defs.trans (u71.defs.trans (u70.defs.trans (u68.defs.trans (u67.defs.trans (u64.defs.trans d62))))))))))
    refine seq_end ?_
    refine then_norm ?_
    refine wp_seq ?_
    refine seq_begin ?_
    refine salloc z76 rfl (zv_57 _) ?_; intro b78 w78 a78 t78 g78 hb78 u78 z78
    have hm0_80 := (MapF.keep (MapF.keep (MapF.same (MapF.keep hm0_47 t51) (t58.touch.block _ (MapF.lt (MapF.keep hm0_47 t51)) n52_ms_b51)) t62) t68)
    have n79_ms_b78 := ne_lt (MapF.lt hm0_80) g78
    have hb1_82 := (Ext.keep t68 (Ext.keep t62 (Turn.keep t58 (Ext.keep t51 hb1_27) n53_b1_b51)))
    have n81_b1_b78 := ne_lt (lt_of hb1_82) g78
    have t58.here_84 := (Ext.keep t68 (Ext.keep t62 t58.here))
    have n83_b51_b78 := ne_lt (lt_of t58.here_84) g78
    have H_86 := (ArenaAt.keep H_69 t68)
    have o85 : ¬ Fp b78 := fun hQ => by have := ArenaAt.lt H_86 hQ; omega
    have x88 := (Touch.trans (Touch.trans (Touch.turn (Touch.trans x57 (Ext.touch t51)) t58 (Or.inr yb51_56)) (Ext.touch t62)) (Ext.touch t68))
    have yb78_87 := Nat.le_trans (Touch.size x88) g78
    have d89 := (u78.defs.trans d77)
    refine seq_end ?_
    refine then_norm ?_
    refine wp_seq_k fun K90 hK90 => ?_
    have s91_10 : a75.eval (.tmp 10) = .int .i64 ((nodeV A f).2.1) := (u75.here _ rfl)
    have s92_10 := ((u78.past 10 rfl).trans ((u76.past 10 rfl).trans s91_10))
    have s93_11 : a76.eval (.tmp 11) = .int .i64 ((nodeV A f).2.2) := (u76.here _ rfl)
    have s94_11 := ((u78.past 11 rfl).trans s93_11)
    refine rgs mixed 69 [.eq (.int .i64 ((nodeV A f).2.1)), .eq (.int .i64 ((nodeV A f).2.2)), .eq (.agg #[.int .i64 ((nodeV A f).2.1), .int .i64 ((nodeV A f).2.2)]), .eq (.int .i64 0)] [[(10, none)], [(11, none)], [(40, some 0), (41, some 1)], []] d89 z78 (by kernel_rfl) ⟨Ov rfl rfl fun _ _ T ⟨k10, _⟩ => ex_move (k10.trans s92_10),
     Ov rfl rfl fun _ _ T ⟨k11, _⟩ => ex_move (k11.trans s94_11),
     Ov rfl rfl fun _ _ T ⟨k40, k41, _⟩ => exl_build (cons_parts k40 (cons_parts k41 nil_parts)) (bd_178_0Ii64_1Ii64 ((nodeV A f).2.1) ((nodeV A f).2.2) _),
     Ov rfl rfl fun _ _ T _ => ex_move rfl,
     trivial⟩ ?_
    intro a95 w95 d95 z95 t95 e95 q95
    refine wp_block ?_
    have p98 := fr4 u59.past q62 u64.past u67.past
    have p99 := fr4 p41 p65 p66 p98
    have p100 := fr4 u68.past u70.past u71.past u72.past
    have p101 := fr4 u73.past u74.past u75.past u76.past
    have s97_0 := ((q95 0 rfl).trans ((u78.past 0 rfl).trans ((p101 0 rfl).trans ((p100 0 rfl).trans ((p99 0 rfl).trans s0_0)))))
    have s102_1 := ((q95 1 rfl).trans ((u78.past 1 rfl).trans ((p101 1 rfl).trans ((p100 1 rfl).trans ((p98 1 rfl).trans ((p66 1 rfl).trans ((p65 1 rfl).trans ((q26 1 rfl).trans ((q10 1 rfl).trans ((q8 1 rfl).trans s7_1))))))))))
    have s103_2 := ((q95 2 rfl).trans ((u78.past 2 rfl).trans ((p101 2 rfl).trans ((p100 2 rfl).trans ((p99 2 rfl).trans s0_2)))))
    have s104_6 : a1.eval (.tmp 6) = .pointer (some ⟨b1, 0, none⟩) := (u1.here _ rfl)
    have s105_6 := ((q95 6 rfl).trans ((u78.past 6 rfl).trans ((p101 6 rfl).trans ((p100 6 rfl).trans ((p98 6 rfl).trans ((p66 6 rfl).trans ((p65 6 rfl).trans ((q26 6 rfl).trans ((q10 6 rfl).trans ((q8 6 rfl).trans s104_6))))))))))
    have s106_9 : a74.eval (.tmp 9) = .int .i64 ((nodeV A f).1) := (u74.here _ rfl)
    have s107_9 := ((q95 9 rfl).trans ((u78.past 9 rfl).trans ((u76.past 9 rfl).trans ((u75.past 9 rfl).trans s106_9))))
    have s108_12 : a78.eval (.tmp 12) = .pointer (some ⟨b78, 0, none⟩) := (u78.here _ rfl)
    have s109_12 := ((q95 12 rfl).trans s108_12)
    have s110_42 : a95.eval (.tmp 42) = .agg #[.int .i64 ((nodeV A f).2.1), .int .i64 ((nodeV A f).2.2)] := e95.2.2.1
    have s111_43 : a95.eval (.tmp 43) = .int .i64 0 := e95.2.2.2.1
    have x112 := (Touch.trans (Touch.trans x88 (Ext.touch t78)) (Ext.touch t95))
    have H_113 := (ArenaAt.keep (ArenaAt.keep H_86 t78) t95)
    have hb1_115 := (Ext.keep t95 (Ext.keep t78 hb1_82))
    have t58.here_117 := (Ext.keep t95 (Ext.keep t78 t58.here_84))
    have hb78_119 := (Ext.keep t95 hb78)
    have hm0_122 := (MapF.keep (MapF.keep hm0_80 t78) t95)
    refine wp_loopg (σ := Nat) (fun nQ aQ wQ => ∃ i : Nat, nQ = (2 - i) ∧
     aQ.defers = [] ∧
     aQ.tmps.size = 69 ∧
     aQ.eval (.tmp 0) = .pointer (some ⟨b, 0, none⟩) ∧
     aQ.eval (.tmp 1) = .int .i64 f ∧
     aQ.eval (.tmp 2) = .map (some ms) ∧
     aQ.eval (.tmp 6) = .pointer (some ⟨b1, 0, none⟩) ∧
     aQ.eval (.tmp 9) = .int .i64 ((nodeV A f).1) ∧
     aQ.eval (.tmp 12) = .pointer (some ⟨b78, 0, none⟩) ∧
     aQ.eval (.tmp 42) = .agg #[.int .i64 ((nodeV A f).2.1), .int .i64 ((nodeV A f).2.2)] ∧
     aQ.eval (.tmp 43) = .int .i64 (i : Int) ∧
     Touch (fun kQ => kQ = ms) w wQ ∧
     ArenaAt wQ b Fp A most ∧
     wQ.heap[b1]? = some (.cells #[.int .u64 0, .int .u64 0] 57 (0, 0)) ∧
     wQ.heap[b51]? = some (.cells #[.int .u64 0, .int .u64 0] 57 (0, 0)) ∧
     wQ.heap[b78]? = some (.cells #[.int .u64 (hiW (csum A f i)), .int .u64 (loW (csum A f i))] 57 (0, 0)) ∧
     MemoW wQ ms A ∧
     (i ≤ 2)) (fun nQ => nQ) _ ⟨0, rfl, d95, z95, s97_0, s102_1, s103_2, s105_6, s107_9, s109_12, s110_42, (s111_43.trans (by first | rfl | (rw [hnx]) | (simp [Value.cells, csum, hiW, loW]))), x112, H_113, hb1_115, t58.here_117, (hb78_119.trans (by first | rfl | (rw [hnx]) | (simp [Value.cells, csum, hiW, loW]))), ⟨_, _, hm0_122, hs0⟩, by omega⟩ ?_
    rintro nQ96 a96 w96 ⟨i, hmu96, d96, z96, s96_0, s96_1, s96_2, s96_6, s96_9, s96_12, s96_42, s96_43, x96, H_114, hb1_116, t58_118, hb78_120, f121, hi2⟩
    obtain ⟨SL, nL, hmL, hsL⟩ := f121
    refine rgs mixed 69 [.eq (.bool (decide ((i : Int) < 2)))] [[(43, none)]] d96 z96 (by kernel_rfl) ⟨Ov rfl rfl fun _ _ T ⟨k43, _⟩ => ex_lss (k43.trans s96_43) rfl, trivial⟩ ?_
    intro a123 w123 d123 z123 t123 e123 q123
    refine wp_seq_k fun K124 hK124 => ?_
    by_cases c125 : (i : Int) < 2
    ·have y125 := decide_eq_true c125
     have s126_44 : a123.eval (.tmp 44) = .bool (decide ((i : Int) < 2)) := e123.1
     refine wp_cond_true (s126_44.trans (by rw [y125])) ?_
     refine wp_skip ?_
     repeat (with_reducible refine block_norm ?_)
     refine hK124 _ _ ?_
     refine wp_seq_k fun K127 hK127 => ?_
     refine wp_block ?_
     rcases (show (i : Int) = 0 ∨ (i : Int) = 1 from by omega) with hq128 | hq128
     ·skip
      have s129_42 := ((q123 42 rfl).trans s96_42)
      have s130_43 := ((q123 43 rfl).trans s96_43)
      refine rgs mixed 69 [.eq (.int .i64 ((nodeV A f).2.1)), .eq (.int .i64 ((nodeV A f).2.1))] [[(42, none), (43, none)], [(45, some 0)]] d123 z123 (by kernel_rfl) ⟨Ov rfl rfl fun _ _ T ⟨k42, k43, _⟩ => ex_index1 Try.underlying178 (by kernel_rfl) (Try.sizeOf3 _) (k42.trans s129_42) (k43.trans s130_43) (by omega) (by omega) (by rw [hq128]; rfl), Ov rfl rfl fun _ _ T ⟨k45, _⟩ => ex_assign k45, trivial⟩ ?_
      intro a131 w131 d131 z131 t131 e131 q131
      refine wp_seq ?_
      refine seq_begin ?_
      refine sp z131 rfl rfl (ex_move ((q131 0 rfl).trans ((q123 0 rfl).trans s96_0))) ?_; intro a132 u132 z132
      refine sp z132 rfl rfl (ex_move ((u132.past 14 rfl).trans e131.2.1)) ?_; intro a133 u133 z133
      have H_135 := (ArenaAt.keep (ArenaAt.keep H_114 t123) t131)
      refine scx z133 rfl rfl (exl_call Try.func75 rfl rfl (cons_ops ((u133.past 47 rfl).trans (u132.here _ rfl)) (cons_ops (u133.here _ rfl) nil_ops))) (c_Node H_135 ((nodeV A f).2.1) (by simp only [nodeV_2 h2f]; exact nf.2.2.1)) ?_; intro w134 a134 t134 u134 z134
      refine sp z134 rfl rfl (ex_move (u134.here _ rfl)) ?_; intro a136 u136 z136
      refine sp z136 rfl rfl (ex_extract (u136.here _ rfl) rfl) ?_; intro a137 u137 z137
      refine sp z137 rfl rfl (ex_extract ((u137.past 46 rfl).trans (u136.here _ rfl)) rfl) ?_; intro a138 u138 z138
      refine sp z138 rfl rfl (ex_extract ((u138.past 46 rfl).trans ((u137.past 46 rfl).trans (u136.here _ rfl))) rfl) ?_; intro a139 u139 z139
      refine sp z139 rfl rfl (ex_assign ((u139.past 50 rfl).trans ((u138.past 50 rfl).trans (u137.here _ rfl)))) ?_; intro a140 u140 z140
      refine sp z140 rfl rfl (ex_assign ((u140.past 51 rfl).trans ((u139.past 51 rfl).trans (u138.here _ rfl)))) ?_; intro a141 u141 z141
      refine sp z141 rfl rfl (ex_assign ((u141.past 52 rfl).trans ((u140.past 52 rfl).trans (u139.here _ rfl)))) ?_; intro a142 u142 z142
      have d143 := (u142.defs.trans (u141.defs.trans (u140.defs.trans (u139.defs.trans (u138.defs.trans (u137.defs.trans (u136.defs.trans (u134.defs.trans (u133.defs.trans (u132.defs.trans d131))))))))))
      refine seq_end ?_
      refine then_norm ?_
      have hpo : Okn A (nodeV A f).2.1 := by simp only [nodeV_2 h2f]; first | exact nf.2.2.1 | exact nf.2.2.2.1
      have hl1 : (nodeV A f).1 < (nodeV A (nodeV A f).2.1).1 ∧ (nodeV A (nodeV A f).2.1).1 ≤ 104 ∧ 0 ≤ (nodeV A f).1 := by rw [nodeV_1 hW hpo, nodeV_2 h2f]; exact ⟨by first | exact nf.2.2.2.2.2.2.1 | exact nf.2.2.2.2.2.2.2, (lev_le hW (by first | exact nf.2.2.1 | exact nf.2.2.2.1)).2.1, nf.2.1⟩
      have hcl := csum_lt hW hf h2f; have hcs := csum_le A f i
      have hup : cntN A (nodeV A f).2.1 * 2 ^ Int.toNat (((nodeV A (nodeV A f).2.1).1 - (nodeV A f).1) - 1) < 340282366920938463463374607431768211456 := by show cpart A f _ < _; omega
      have hsum : csum A f i + (cntN A (nodeV A f).2.1 * 2 ^ Int.toNat (((nodeV A (nodeV A f).2.1).1 - (nodeV A f).1) - 1)) < 340282366920938463463374607431768211456 := by show _ + cpart A f _ < _; omega
      have hb78_144 := (Ext.keep t134 (Ext.keep t131 (Ext.keep t123 hb78_120)))
      have p146 := fr4 q123 q131 u132.past u133.past
      have p147 := fr4 u134.past u136.past u137.past u138.past
      have p148 := fr4 u139.past u140.past u141.past u142.past
      have s145_12 := ((p148 12 rfl).trans ((p147 12 rfl).trans ((p146 12 rfl).trans s96_12)))
      have s149_0 := ((p148 0 rfl).trans ((p147 0 rfl).trans ((p146 0 rfl).trans s96_0)))
      have s150_14 : a131.eval (.tmp 14) = .int .i64 ((nodeV A f).2.1) := e131.2.1
      have s151_14 := ((p148 14 rfl).trans ((p147 14 rfl).trans ((u133.past 14 rfl).trans ((u132.past 14 rfl).trans s150_14))))
      have s152_2 := ((p148 2 rfl).trans ((p147 2 rfl).trans ((p146 2 rfl).trans s96_2)))
      have H_153 := (ArenaAt.keep H_135 t134)
      have hmL_154 := (MapF.keep (MapF.keep (MapF.keep hmL t123) t131) t134)
      have s155_15 : a140.eval (.tmp 15) = .int .i64 ((nodeV A ((nodeV A f).2.1)).1) := (u140.here _ rfl)
      have s156_15 := ((u142.past 15 rfl).trans ((u141.past 15 rfl).trans s155_15))
      have s157_9 := ((p148 9 rfl).trans ((p147 9 rfl).trans ((p146 9 rfl).trans s96_9)))
      refine rt2 mixed 69 b78 ms 4 11 (.cells ([.int .u64 (hiW ((csum A f i) + ((cntN A (nodeV A f).2.1) * 2 ^ Int.toNat ((((nodeV A ((nodeV A f).2.1)).1) - ((nodeV A f).1)) - 1)))), .int .u64 (loW ((csum A f i) + ((cntN A (nodeV A f).2.1) * 2 ^ Int.toNat ((((nodeV A ((nodeV A f).2.1)).1) - ((nodeV A f).1)) - 1))))]).toArray 57 (0, 0)) (fun wQ => MemoW wQ ms A) (fun hQ tQ => hQ.touch tQ (fun eQ => (Ne.symm n79_ms_b78) eQ.symm)) [.eq (.agg #[.int .u64 (hiW (csum A f i)), .int .u64 (loW (csum A f i))]), .eq (.pointer (some ⟨b, 0, none⟩)), .eq (.int .i64 ((nodeV A f).2.1)), .eq (.map (some ms)), .eq (.agg #[.int .u64 (hiW (cntN A (nodeV A f).2.1)), .int .u64 (loW (cntN A (nodeV A f).2.1))]), .eq (.int .i64 ((nodeV A ((nodeV A f).2.1)).1)), .eq (.int .i64 ((nodeV A f).1)), .eq (.int .i64 (((nodeV A ((nodeV A f).2.1)).1) - ((nodeV A f).1))), .eq (.int .i64 ((((nodeV A ((nodeV A f).2.1)).1) - ((nodeV A f).1)) - 1)), .eq (.agg #[.int .u64 (hiW ((cntN A (nodeV A f).2.1) * 2 ^ Int.toNat ((((nodeV A ((nodeV A f).2.1)).1) - ((nodeV A f).1)) - 1))), .int .u64 (loW ((cntN A (nodeV A f).2.1) * 2 ^ Int.toNat ((((nodeV A ((nodeV A f).2.1)).1) - ((nodeV A f).1)) - 1)))]), .eq (.agg #[.int .u64 (hiW ((csum A f i) + ((cntN A (nodeV A f).2.1) * 2 ^ Int.toNat ((((nodeV A ((nodeV A f).2.1)).1) - ((nodeV A f).1)) - 1)))), .int .u64 (loW ((csum A f i) + ((cntN A (nodeV A f).2.1) * 2 ^ Int.toNat ((((nodeV A ((nodeV A f).2.1)).1) - ((nodeV A f).1)) - 1))))]), .any] [[(12, none)], [(0, none)], [(14, none)], [(2, none)], [(54, some 1), (55, some 2), (56, some 3)], [(15, none)], [(9, none)], [(58, some 5), (59, some 6)], [(60, some 7)], [(57, some 4), (61, some 8)], [(53, some 0), (62, some 9)], [(12, none), (63, some 10)]] d143 z142 (by kernel_rfl) rfl ⟨Hv rfl (by kernel_rfl) rfl fun _ _ T ⟨k12, _⟩ => ex_loadAgg (cs := [.int .u64 (hiW (csum A f i)), .int .u64 (loW (csum A f i))]) (k12.trans s145_12) (Try.isAgg57 _) (Try.sizeOf57 _) (cells_of (off := 0) (Touch.keep T hb78_144 (fun eQ => ((Ne.symm n79_ms_b78)) eQ)) rfl),
       Hv rfl (by kernel_rfl) rfl fun _ _ T ⟨k0, _⟩ => ex_move (k0.trans s149_0),
       Hv rfl (by kernel_rfl) rfl fun _ _ T ⟨k14, _⟩ => ex_move (k14.trans s151_14),
       Hv rfl (by kernel_rfl) rfl fun _ _ T ⟨k2, _⟩ => ex_move (k2.trans s152_2),
       Hw (by kernel_rfl) rfl fun _ _ T ⟨k54, k55, k56, _⟩ => ⟨exl_call Try.func76 rfl rfl (cons_ops k54 (cons_ops k55 (cons_ops k56 nil_ops))), ih (ArenaAt.keep H_153 T) ⟨_, _, MapF.keep hmL_154 T, hsL⟩ hout hW (nodeV A f).2.1 (by simp only [nodeV_2 h2f]; first | exact nf.2.2.1 | exact nf.2.2.2.1) (by have hl1 := nf.2.2.2.2.2.2.1; have hl2 := nf.2.2.2.2.2.2.2; simp only [nodeV_2 h2f, lev] at *; omega)⟩,
       Hv rfl (by kernel_rfl) rfl fun _ _ T ⟨k15, _⟩ => ex_move (k15.trans s156_15),
       Hv rfl (by kernel_rfl) rfl fun _ _ T ⟨k9, _⟩ => ex_move (k9.trans s157_9),
       Hv rfl (by kernel_rfl) rfl fun _ _ T ⟨k58, k59, _⟩ => ex_sub64 k58 k59 (by omega),
       Hv rfl (by kernel_rfl) rfl fun _ _ T ⟨k60, _⟩ => ex_sub64 k60 rfl (by omega),
       Hc rfl (by kernel_rfl) rfl fun _ _ T ⟨k57, k61, _⟩ => ⟨exl_call Try.func77 rfl rfl (cons_ops k57 (cons_ops k61 nil_ops)), c_wupW (m := (cntN A (nodeV A f).2.1)) (n := ((((nodeV A ((nodeV A f).2.1)).1) - ((nodeV A f).1)) - 1)) (by omega) (by omega) (hup) _⟩,
       Hc rfl (by kernel_rfl) rfl fun _ _ T ⟨k53, k62, _⟩ => ⟨exl_call Try.func112 rfl rfl (cons_ops k53 (cons_ops k62 nil_ops)), c_waddW (m := (csum A f i)) (n := ((cntN A (nodeV A f).2.1) * 2 ^ Int.toNat ((((nodeV A ((nodeV A f).2.1)).1) - ((nodeV A f).1)) - 1))) (hsum) _⟩,
       Hs (cs := [.int .u64 (hiW (csum A f i)), .int .u64 (loW (csum A f i))]) (vs := [.int .u64 (hiW ((csum A f i) + ((cntN A (nodeV A f).2.1) * 2 ^ Int.toNat ((((nodeV A ((nodeV A f).2.1)).1) - ((nodeV A f).1)) - 1)))), .int .u64 (loW ((csum A f i) + ((cntN A (nodeV A f).2.1) * 2 ^ Int.toNat ((((nodeV A ((nodeV A f).2.1)).1) - ((nodeV A f).1)) - 1))))]) (cs' := [.int .u64 (hiW ((csum A f i) + ((cntN A (nodeV A f).2.1) * 2 ^ Int.toNat ((((nodeV A ((nodeV A f).2.1)).1) - ((nodeV A f).1)) - 1)))), .int .u64 (loW ((csum A f i) + ((cntN A (nodeV A f).2.1) * 2 ^ Int.toNat ((((nodeV A ((nodeV A f).2.1)).1) - ((nodeV A f).1)) - 1))))]) (by kernel_rfl) hb78_144 (fun eQ => ((Ne.symm n79_ms_b78)) eQ) Try.sizeOf57 rfl rfl (by decide) (Nat.le_of_ble_eq_true rfl) rfl rfl rfl fun _ _ T ⟨k12, k63, _⟩ => ⟨(k12.trans s145_12), k63⟩,
       trivial⟩ ?_
      rintro a158 w158 d158 z158 t158 hM158 hb158 e158 q158
      obtain ⟨Sm158, nm158, hmm158, hsm158⟩ := hM158
      repeat (with_reducible refine block_norm ?_)
      refine hK127 _ _ ?_
      have s159_43 := ((q158 43 rfl).trans ((p148 43 rfl).trans ((p147 43 rfl).trans ((u133.past 43 rfl).trans ((u132.past 43 rfl).trans ((q131 43 rfl).trans s130_43))))))
      refine rg mixed 69 [.eq (.int .i64 ((i : Int) + 1)), .eq (.int .i64 ((i : Int) + 1))] [[(43, none)], [(64, some 0)]] d158 z158 (by kernel_rfl) ⟨Ov rfl rfl fun _ _ T ⟨k43, _⟩ => ex_add64 (k43.trans s159_43) rfl (by omega), Ov rfl rfl fun _ _ T ⟨k64, _⟩ => ex_move k64, trivial⟩ ?_
      intro a160 w160 d160 z160 t160 e160 q160
      repeat (with_reducible refine block_norm ?_)
      have hnx : csum A f i + (cntN A (nodeV A f).2.1 * 2 ^ Int.toNat (((nodeV A (nodeV A f).2.1).1 - (nodeV A f).1) - 1)) = csum A f (i + 1) := by first | exact csum_0 hq128 | exact csum_1 hq128
      have s161_0 := ((q160 0 rfl).trans ((q158 0 rfl).trans s149_0))
      have s162_1 := ((q160 1 rfl).trans ((q158 1 rfl).trans ((p148 1 rfl).trans ((p147 1 rfl).trans ((p146 1 rfl).trans s96_1)))))
      have s163_2 := ((q160 2 rfl).trans ((q158 2 rfl).trans s152_2))
      have s164_6 := ((q160 6 rfl).trans ((q158 6 rfl).trans ((p148 6 rfl).trans ((p147 6 rfl).trans ((p146 6 rfl).trans s96_6)))))
      have s165_9 := ((q160 9 rfl).trans ((q158 9 rfl).trans s157_9))
      have s166_12 := ((q160 12 rfl).trans ((q158 12 rfl).trans s145_12))
      have s167_42 := ((q160 42 rfl).trans ((q158 42 rfl).trans ((p148 42 rfl).trans ((p147 42 rfl).trans ((u133.past 42 rfl).trans ((u132.past 42 rfl).trans ((q131 42 rfl).trans s129_42)))))))
      have s168_43 : a160.eval (.tmp 43) = .int .i64 ((i : Int) + 1) := e160.2.1
      have x169 := (Touch.trans (Touch.mut (Touch.trans (Touch.trans (Touch.trans x96 (Ext.touch t123)) (Ext.touch t131)) (Ext.touch t134)) (⟨t158, fun _ hQ => .inl hQ⟩ : Mut (F2 b78 ms) (F2 b78 ms) _ _) (fun jQ hQ => hQ.elim (fun eQ => Or.inr (by rw [eQ]; exact yb78_87)) (fun eQ => Or.inl eQ))) (Ext.touch t160))
      have H_170 := (ArenaAt.keep (ArenaAt.same H_153 fun kQ hQ => Mut.block (⟨t158, fun _ hQ => .inl hQ⟩ : Mut (F2 b78 ms) (F2 b78 ms) _ _) (ArenaAt.lt H_153 hQ) ((fun (kQ : Nat) (hQ : Fp kQ) (gQ : (F2 b78 ms) kQ) => gQ.elim (fun eQ => o85 (by rw [← eQ]; exact hQ)) (fun eQ => hout (by rw [← eQ]; exact hQ))) kQ hQ)) t160)
      have hb1_171 := (Ext.keep t160 (Mut.keep (⟨t158, fun _ hQ => .inl hQ⟩ : Mut (F2 b78 ms) (F2 b78 ms) _ _) (Ext.keep t134 (Ext.keep t131 (Ext.keep t123 hb1_116))) (fun hQ => hQ.elim (fun eQ => n81_b1_b78 eQ) (fun eQ => (Ne.symm n2_ms_b1) eQ))))
      have t58_172 := (Ext.keep t160 (Mut.keep (⟨t158, fun _ hQ => .inl hQ⟩ : Mut (F2 b78 ms) (F2 b78 ms) _ _) (Ext.keep t134 (Ext.keep t131 (Ext.keep t123 t58_118))) (fun hQ => hQ.elim (fun eQ => n83_b51_b78 eQ) (fun eQ => (Ne.symm n52_ms_b51) eQ))))
      have hb158_173 := (Ext.keep t160 hb158)
      have hmm158_174 := (MapF.keep hmm158 t160)
      refine then_norm ?_
      refine ⟨_, ⟨i + 1, rfl, d160, z160, s161_0, s162_1, s163_2, s164_6, s165_9, s166_12, s167_42, (s168_43.trans (by first | rfl | (rw [hnx]) | (simp [Value.cells, csum, hiW, loW]))), x169, H_170, hb1_171, t58_172, (hb158_173.trans (by first | rfl | (rw [hnx]) | (simp [Value.cells, csum, hiW, loW]))), ⟨_, _, hmm158_174, hsm158⟩, by omega⟩, ?_⟩; (show _ < _); rw [hmu96]; exact by omega
     ·skip
      have s175_42 := ((q123 42 rfl).trans s96_42)
      have s176_43 := ((q123 43 rfl).trans s96_43)
      refine rgs mixed 69 [.eq (.int .i64 ((nodeV A f).2.2)), .eq (.int .i64 ((nodeV A f).2.2))] [[(42, none), (43, none)], [(45, some 0)]] d123 z123 (by kernel_rfl) ⟨Ov rfl rfl fun _ _ T ⟨k42, k43, _⟩ => ex_index1 Try.underlying178 (by kernel_rfl) (Try.sizeOf3 _) (k42.trans s175_42) (k43.trans s176_43) (by omega) (by omega) (by rw [hq128]; rfl), Ov rfl rfl fun _ _ T ⟨k45, _⟩ => ex_assign k45, trivial⟩ ?_
      intro a177 w177 d177 z177 t177 e177 q177
      refine wp_seq ?_
      refine seq_begin ?_
      refine sp z177 rfl rfl (ex_move ((q177 0 rfl).trans ((q123 0 rfl).trans s96_0))) ?_; intro a178 u178 z178
      refine sp z178 rfl rfl (ex_move ((u178.past 14 rfl).trans e177.2.1)) ?_; intro a179 u179 z179
      have H_181 := (ArenaAt.keep (ArenaAt.keep H_114 t123) t177)
      refine scx z179 rfl rfl (exl_call Try.func75 rfl rfl (cons_ops ((u179.past 47 rfl).trans (u178.here _ rfl)) (cons_ops (u179.here _ rfl) nil_ops))) (c_Node H_181 ((nodeV A f).2.2) (by simp only [nodeV_2 h2f]; exact nf.2.2.2.1)) ?_; intro w180 a180 t180 u180 z180
      refine sp z180 rfl rfl (ex_move (u180.here _ rfl)) ?_; intro a182 u182 z182
      refine sp z182 rfl rfl (ex_extract (u182.here _ rfl) rfl) ?_; intro a183 u183 z183
      refine sp z183 rfl rfl (ex_extract ((u183.past 46 rfl).trans (u182.here _ rfl)) rfl) ?_; intro a184 u184 z184
      refine sp z184 rfl rfl (ex_extract ((u184.past 46 rfl).trans ((u183.past 46 rfl).trans (u182.here _ rfl))) rfl) ?_; intro a185 u185 z185
      refine sp z185 rfl rfl (ex_assign ((u185.past 50 rfl).trans ((u184.past 50 rfl).trans (u183.here _ rfl)))) ?_; intro a186 u186 z186
      refine sp z186 rfl rfl (ex_assign ((u186.past 51 rfl).trans ((u185.past 51 rfl).trans (u184.here _ rfl)))) ?_; intro a187 u187 z187
      refine sp z187 rfl rfl (ex_assign ((u187.past 52 rfl).trans ((u186.past 52 rfl).trans (u185.here _ rfl)))) ?_; intro a188 u188 z188
      have d189 := (u188.defs.trans (u187.defs.trans (u186.defs.trans (u185.defs.trans (u184.defs.trans (u183.defs.trans (u182.defs.trans (u180.defs.trans (u179.defs.trans (u178.defs.trans d177))))))))))
      refine seq_end ?_
      refine then_norm ?_
      have hpo : Okn A (nodeV A f).2.2 := by simp only [nodeV_2 h2f]; first | exact nf.2.2.1 | exact nf.2.2.2.1
      have hl1 : (nodeV A f).1 < (nodeV A (nodeV A f).2.2).1 ∧ (nodeV A (nodeV A f).2.2).1 ≤ 104 ∧ 0 ≤ (nodeV A f).1 := by rw [nodeV_1 hW hpo, nodeV_2 h2f]; exact ⟨by first | exact nf.2.2.2.2.2.2.1 | exact nf.2.2.2.2.2.2.2, (lev_le hW (by first | exact nf.2.2.1 | exact nf.2.2.2.1)).2.1, nf.2.1⟩
      have hcl := csum_lt hW hf h2f; have hcs := csum_le A f i
      have hup : cntN A (nodeV A f).2.2 * 2 ^ Int.toNat (((nodeV A (nodeV A f).2.2).1 - (nodeV A f).1) - 1) < 340282366920938463463374607431768211456 := by show cpart A f _ < _; omega
      have hsum : csum A f i + (cntN A (nodeV A f).2.2 * 2 ^ Int.toNat (((nodeV A (nodeV A f).2.2).1 - (nodeV A f).1) - 1)) < 340282366920938463463374607431768211456 := by show _ + cpart A f _ < _; omega
      have hb78_190 := (Ext.keep t180 (Ext.keep t177 (Ext.keep t123 hb78_120)))
      have p192 := fr4 q123 q177 u178.past u179.past
      have p193 := fr4 u180.past u182.past u183.past u184.past
      have p194 := fr4 u185.past u186.past u187.past u188.past
      have s191_12 := ((p194 12 rfl).trans ((p193 12 rfl).trans ((p192 12 rfl).trans s96_12)))
      have s195_0 := ((p194 0 rfl).trans ((p193 0 rfl).trans ((p192 0 rfl).trans s96_0)))
      have s196_14 : a177.eval (.tmp 14) = .int .i64 ((nodeV A f).2.2) := e177.2.1
      have s197_14 := ((p194 14 rfl).trans ((p193 14 rfl).trans ((u179.past 14 rfl).trans ((u178.past 14 rfl).trans s196_14))))
      have s198_2 := ((p194 2 rfl).trans ((p193 2 rfl).trans ((p192 2 rfl).trans s96_2)))
      have H_199 := (ArenaAt.keep H_181 t180)
      have hmL_200 := (MapF.keep (MapF.keep (MapF.keep hmL t123) t177) t180)
      have s201_15 : a186.eval (.tmp 15) = .int .i64 ((nodeV A ((nodeV A f).2.2)).1) := (u186.here _ rfl)
      have s202_15 := ((u188.past 15 rfl).trans ((u187.past 15 rfl).trans s201_15))
      have s203_9 := ((p194 9 rfl).trans ((p193 9 rfl).trans ((p192 9 rfl).trans s96_9)))
      refine rt2 mixed 69 b78 ms 4 11 (.cells ([.int .u64 (hiW ((csum A f i) + ((cntN A (nodeV A f).2.2) * 2 ^ Int.toNat ((((nodeV A ((nodeV A f).2.2)).1) - ((nodeV A f).1)) - 1)))), .int .u64 (loW ((csum A f i) + ((cntN A (nodeV A f).2.2) * 2 ^ Int.toNat ((((nodeV A ((nodeV A f).2.2)).1) - ((nodeV A f).1)) - 1))))]).toArray 57 (0, 0)) (fun wQ => MemoW wQ ms A) (fun hQ tQ => hQ.touch tQ (fun eQ => (Ne.symm n79_ms_b78) eQ.symm)) [.eq (.agg #[.int .u64 (hiW (csum A f i)), .int .u64 (loW (csum A f i))]), .eq (.pointer (some ⟨b, 0, none⟩)), .eq (.int .i64 ((nodeV A f).2.2)), .eq (.map (some ms)), .eq (.agg #[.int .u64 (hiW (cntN A (nodeV A f).2.2)), .int .u64 (loW (cntN A (nodeV A f).2.2))]), .eq (.int .i64 ((nodeV A ((nodeV A f).2.2)).1)), .eq (.int .i64 ((nodeV A f).1)), .eq (.int .i64 (((nodeV A ((nodeV A f).2.2)).1) - ((nodeV A f).1))), .eq (.int .i64 ((((nodeV A ((nodeV A f).2.2)).1) - ((nodeV A f).1)) - 1)), .eq (.agg #[.int .u64 (hiW ((cntN A (nodeV A f).2.2) * 2 ^ Int.toNat ((((nodeV A ((nodeV A f).2.2)).1) - ((nodeV A f).1)) - 1))), .int .u64 (loW ((cntN A (nodeV A f).2.2) * 2 ^ Int.toNat ((((nodeV A ((nodeV A f).2.2)).1) - ((nodeV A f).1)) - 1)))]), .eq (.agg #[.int .u64 (hiW ((csum A f i) + ((cntN A (nodeV A f).2.2) * 2 ^ Int.toNat ((((nodeV A ((nodeV A f).2.2)).1) - ((nodeV A f).1)) - 1)))), .int .u64 (loW ((csum A f i) + ((cntN A (nodeV A f).2.2) * 2 ^ Int.toNat ((((nodeV A ((nodeV A f).2.2)).1) - ((nodeV A f).1)) - 1))))]), .any] [[(12, none)], [(0, none)], [(14, none)], [(2, none)], [(54, some 1), (55, some 2), (56, some 3)], [(15, none)], [(9, none)], [(58, some 5), (59, some 6)], [(60, some 7)], [(57, some 4), (61, some 8)], [(53, some 0), (62, some 9)], [(12, none), (63, some 10)]] d189 z188 (by kernel_rfl) rfl ⟨Hv rfl (by kernel_rfl) rfl fun _ _ T ⟨k12, _⟩ => ex_loadAgg (cs := [.int .u64 (hiW (csum A f i)), .int .u64 (loW (csum A f i))]) (k12.trans s191_12) (Try.isAgg57 _) (Try.sizeOf57 _) (cells_of (off := 0) (Touch.keep T hb78_190 (fun eQ => ((Ne.symm n79_ms_b78)) eQ)) rfl),
       Hv rfl (by kernel_rfl) rfl fun _ _ T ⟨k0, _⟩ => ex_move (k0.trans s195_0),
       Hv rfl (by kernel_rfl) rfl fun _ _ T ⟨k14, _⟩ => ex_move (k14.trans s197_14),
       Hv rfl (by kernel_rfl) rfl fun _ _ T ⟨k2, _⟩ => ex_move (k2.trans s198_2),
       Hw (by kernel_rfl) rfl fun _ _ T ⟨k54, k55, k56, _⟩ => ⟨exl_call Try.func76 rfl rfl (cons_ops k54 (cons_ops k55 (cons_ops k56 nil_ops))), ih (ArenaAt.keep H_199 T) ⟨_, _, MapF.keep hmL_200 T, hsL⟩ hout hW (nodeV A f).2.2 (by simp only [nodeV_2 h2f]; first | exact nf.2.2.1 | exact nf.2.2.2.1) (by have hl1 := nf.2.2.2.2.2.2.1; have hl2 := nf.2.2.2.2.2.2.2; simp only [nodeV_2 h2f, lev] at *; omega)⟩,
       Hv rfl (by kernel_rfl) rfl fun _ _ T ⟨k15, _⟩ => ex_move (k15.trans s202_15),
       Hv rfl (by kernel_rfl) rfl fun _ _ T ⟨k9, _⟩ => ex_move (k9.trans s203_9),
       Hv rfl (by kernel_rfl) rfl fun _ _ T ⟨k58, k59, _⟩ => ex_sub64 k58 k59 (by omega),
       Hv rfl (by kernel_rfl) rfl fun _ _ T ⟨k60, _⟩ => ex_sub64 k60 rfl (by omega),
       Hc rfl (by kernel_rfl) rfl fun _ _ T ⟨k57, k61, _⟩ => ⟨exl_call Try.func77 rfl rfl (cons_ops k57 (cons_ops k61 nil_ops)), c_wupW (m := (cntN A (nodeV A f).2.2)) (n := ((((nodeV A ((nodeV A f).2.2)).1) - ((nodeV A f).1)) - 1)) (by omega) (by omega) (hup) _⟩,
       Hc rfl (by kernel_rfl) rfl fun _ _ T ⟨k53, k62, _⟩ => ⟨exl_call Try.func112 rfl rfl (cons_ops k53 (cons_ops k62 nil_ops)), c_waddW (m := (csum A f i)) (n := ((cntN A (nodeV A f).2.2) * 2 ^ Int.toNat ((((nodeV A ((nodeV A f).2.2)).1) - ((nodeV A f).1)) - 1))) (hsum) _⟩,
       Hs (cs := [.int .u64 (hiW (csum A f i)), .int .u64 (loW (csum A f i))]) (vs := [.int .u64 (hiW ((csum A f i) + ((cntN A (nodeV A f).2.2) * 2 ^ Int.toNat ((((nodeV A ((nodeV A f).2.2)).1) - ((nodeV A f).1)) - 1)))), .int .u64 (loW ((csum A f i) + ((cntN A (nodeV A f).2.2) * 2 ^ Int.toNat ((((nodeV A ((nodeV A f).2.2)).1) - ((nodeV A f).1)) - 1))))]) (cs' := [.int .u64 (hiW ((csum A f i) + ((cntN A (nodeV A f).2.2) * 2 ^ Int.toNat ((((nodeV A ((nodeV A f).2.2)).1) - ((nodeV A f).1)) - 1)))), .int .u64 (loW ((csum A f i) + ((cntN A (nodeV A f).2.2) * 2 ^ Int.toNat ((((nodeV A ((nodeV A f).2.2)).1) - ((nodeV A f).1)) - 1))))]) (by kernel_rfl) hb78_190 (fun eQ => ((Ne.symm n79_ms_b78)) eQ) Try.sizeOf57 rfl rfl (by decide) (Nat.le_of_ble_eq_true rfl) rfl rfl rfl fun _ _ T ⟨k12, k63, _⟩ => ⟨(k12.trans s191_12), k63⟩,
       trivial⟩ ?_
      rintro a204 w204 d204 z204 t204 hM204 hb204 e204 q204
      obtain ⟨Sm204, nm204, hmm204, hsm204⟩ := hM204
      repeat (with_reducible refine block_norm ?_)
      refine hK127 _ _ ?_
      have s205_43 := ((q204 43 rfl).trans ((p194 43 rfl).trans ((p193 43 rfl).trans ((u179.past 43 rfl).trans ((u178.past 43 rfl).trans ((q177 43 rfl).trans s176_43))))))
      refine rg mixed 69 [.eq (.int .i64 ((i : Int) + 1)), .eq (.int .i64 ((i : Int) + 1))] [[(43, none)], [(64, some 0)]] d204 z204 (by kernel_rfl) ⟨Ov rfl rfl fun _ _ T ⟨k43, _⟩ => ex_add64 (k43.trans s205_43) rfl (by omega), Ov rfl rfl fun _ _ T ⟨k64, _⟩ => ex_move k64, trivial⟩ ?_
      intro a206 w206 d206 z206 t206 e206 q206
      repeat (with_reducible refine block_norm ?_)
      have hnx : csum A f i + (cntN A (nodeV A f).2.2 * 2 ^ Int.toNat (((nodeV A (nodeV A f).2.2).1 - (nodeV A f).1) - 1)) = csum A f (i + 1) := by first | exact csum_0 hq128 | exact csum_1 hq128
      have s207_0 := ((q206 0 rfl).trans ((q204 0 rfl).trans s195_0))
      have s208_1 := ((q206 1 rfl).trans ((q204 1 rfl).trans ((p194 1 rfl).trans ((p193 1 rfl).trans ((p192 1 rfl).trans s96_1)))))
      have s209_2 := ((q206 2 rfl).trans ((q204 2 rfl).trans s198_2))
      have s210_6 := ((q206 6 rfl).trans ((q204 6 rfl).trans ((p194 6 rfl).trans ((p193 6 rfl).trans ((p192 6 rfl).trans s96_6)))))
      have s211_9 := ((q206 9 rfl).trans ((q204 9 rfl).trans s203_9))
      have s212_12 := ((q206 12 rfl).trans ((q204 12 rfl).trans s191_12))
      have s213_42 := ((q206 42 rfl).trans ((q204 42 rfl).trans ((p194 42 rfl).trans ((p193 42 rfl).trans ((u179.past 42 rfl).trans ((u178.past 42 rfl).trans ((q177 42 rfl).trans s175_42)))))))
      have s214_43 : a206.eval (.tmp 43) = .int .i64 ((i : Int) + 1) := e206.2.1
      have x215 := (Touch.trans (Touch.mut (Touch.trans (Touch.trans (Touch.trans x96 (Ext.touch t123)) (Ext.touch t177)) (Ext.touch t180)) (⟨t204, fun _ hQ => .inl hQ⟩ : Mut (F2 b78 ms) (F2 b78 ms) _ _) (fun jQ hQ => hQ.elim (fun eQ => Or.inr (by rw [eQ]; exact yb78_87)) (fun eQ => Or.inl eQ))) (Ext.touch t206))
      have H_216 := (ArenaAt.keep (ArenaAt.same H_199 fun kQ hQ => Mut.block (⟨t204, fun _ hQ => .inl hQ⟩ : Mut (F2 b78 ms) (F2 b78 ms) _ _) (ArenaAt.lt H_199 hQ) ((fun (kQ : Nat) (hQ : Fp kQ) (gQ : (F2 b78 ms) kQ) => gQ.elim (fun eQ => o85 (by rw [← eQ]; exact hQ)) (fun eQ => hout (by rw [← eQ]; exact hQ))) kQ hQ)) t206)
      have hb1_217 := (Ext.keep t206 (Mut.keep (⟨t204, fun _ hQ => .inl hQ⟩ : Mut (F2 b78 ms) (F2 b78 ms) _ _) (Ext.keep t180 (Ext.keep t177 (Ext.keep t123 hb1_116))) (fun hQ => hQ.elim (fun eQ => n81_b1_b78 eQ) (fun eQ => (Ne.symm n2_ms_b1) eQ))))
      have t58_218 := (Ext.keep t206 (Mut.keep (⟨t204, fun _ hQ => .inl hQ⟩ : Mut (F2 b78 ms) (F2 b78 ms) _ _) (Ext.keep t180 (Ext.keep t177 (Ext.keep t123 t58_118))) (fun hQ => hQ.elim (fun eQ => n83_b51_b78 eQ) (fun eQ => (Ne.symm n52_ms_b51) eQ))))
      have hb204_219 := (Ext.keep t206 hb204)
      have hmm204_220 := (MapF.keep hmm204 t206)
      refine then_norm ?_
      refine ⟨_, ⟨i + 1, rfl, d206, z206, s207_0, s208_1, s209_2, s210_6, s211_9, s212_12, s213_42, (s214_43.trans (by first | rfl | (rw [hnx]) | (simp [Value.cells, csum, hiW, loW]))), x215, H_216, hb1_217, t58_218, (hb204_219.trans (by first | rfl | (rw [hnx]) | (simp [Value.cells, csum, hiW, loW]))), ⟨_, _, hmm204_220, hsm204⟩, by omega⟩, ?_⟩; (show _ < _); rw [hmu96]; exact by omega
    ·have y125 := decide_eq_false c125
     have s221_44 : a123.eval (.tmp 44) = .bool (decide ((i : Int) < 2)) := e123.1
     refine wp_cond_false (s221_44.trans (by rw [y125])) ?_
     refine wp_exit ?_
     repeat (first | (with_reducible refine then_exit ?_) | (with_reducible refine block_here ?_) | (with_reducible refine block_past rfl ?_))
     refine hK90 _ _ ?_
     refine wp_seq ?_
     refine seq_begin ?_
     refine sp z123 rfl rfl (ex_move ((q123 2 rfl).trans s96_2)) ?_; intro a222 u222 z222
     refine sp z222 rfl rfl (ex_move ((u222.past 1 rfl).trans ((q123 1 rfl).trans s96_1))) ?_; intro a223 u223 z223
     have hb78_225 := (Ext.keep t123 hb78_120)
     refine sp z223 rfl rfl (ex_loadAgg (cs := [.int .u64 (hiW (csum A f i)), .int .u64 (loW (csum A f i))]) ((u223.past 12 rfl).trans ((u222.past 12 rfl).trans ((q123 12 rfl).trans s96_12))) (Try.isAgg57 _) (Try.sizeOf57 _) (cells_of (off := 0) hb78_225 rfl)) ?_; intro a224 u224 z224
     have hmL_227 := (MapF.keep hmL t123)
     refine smapu (xk := f) (yv := (csum A f i)) z224 rfl intK Try.underlying148 hmL_227 ((u224.past 65 rfl).trans ((u223.past 65 rfl).trans (u222.here _ rfl))) ((u224.past 66 rfl).trans (u223.here _ rfl)) (u224.here _ rfl) ?_; intro o226 w226 a226 t226 hm226 u226 z226
     have d228 := (u226.defs.trans (u224.defs.trans (u223.defs.trans (u222.defs.trans d123))))
     refine seq_end ?_
     refine then_norm ?_
     refine wp_seq ?_
     refine seq_begin ?_
     have p230 := fr4 q123 u222.past u223.past u224.past
     have hb78_231 := (Turn.keep t226 hb78_225 (Ne.symm n79_ms_b78))
     refine sp z226 rfl rfl (ex_loadAgg (cs := [.int .u64 (hiW (csum A f i)), .int .u64 (loW (csum A f i))]) ((u226.past 12 rfl).trans ((p230 12 rfl).trans s96_12)) (Try.isAgg57 _) (Try.sizeOf57 _) (cells_of (off := 0) hb78_231 rfl)) ?_; intro a229 u229 z229
     have hb1_233 := (Turn.keep t226 (Ext.keep t123 hb1_116) (Ne.symm n2_ms_b1))
     refine sstore (cs := [.int .u64 0, .int .u64 0]) (vs := [.int .u64 (hiW (csum A f i)), .int .u64 (loW (csum A f i))]) (cs' := [.int .u64 (hiW (csum A f i)), .int .u64 (loW (csum A f i))]) z229 rfl ((u229.past 6 rfl).trans ((u226.past 6 rfl).trans ((p230 6 rfl).trans s96_6))) (u229.here _ rfl) hb1_233 (Try.sizeOf57 _) rfl rfl (by decide) (Nat.le_of_ble_eq_true rfl) rfl rfl ?_; intro w232 a232 t232 u232 z232
     have d234 := (u232.defs.trans (u229.defs.trans d228))
     refine seq_end ?_
     refine then_norm ?_
     refine wp_ret ?_
     have s235_6 := ((u232.past 6 rfl).trans ((u229.past 6 rfl).trans ((u226.past 6 rfl).trans ((p230 6 rfl).trans s96_6))))
     repeat (first | (with_reducible refine then_ret ?_) | (with_reducible refine block_ret ?_))
     refine retl (rs := [.cell 6 57]) Try.results76 ⟨⟨_, s235_6, run_loadVarA (cs := [.int .u64 (hiW (csum A f i)), .int .u64 (loW (csum A f i))]) (Try.isAgg57 _) (Try.sizeOf57 _) (cells_of (off := 0) t232.here rfl)⟩, trivial⟩ d234 ?_
     have x236 := (Touch.turn (Touch.turn (Touch.trans x96 (Ext.touch t123)) t226 (Or.inl rfl)) t232 (Or.inr yb1_4))
     have ei : i = 2 := by omega
     subst ei
     have hm226_237 := (MapF.same hm226 (t232.touch.block _ (MapF.lt hm226) n2_ms_b1))
     exact ⟨by rw [csum_2 hW hf h2f]; rfl, x236, ⟨_, _, hm226_237, memo_put hsL (csum_2 hW hf h2f)⟩⟩
   ·skip
    have hm0_239 := (MapF.keep hm0_12 t26)
    refine sp z42 rfl rfl ((ex_look_ok (xk := f) hm0_239 intK Try.underlying148 (zv_57 _) ((u42.past 26 rfl).trans (u40.here _ rfl)) (u42.here _ rfl)).trans (by first | (rw [hq45]; done) | (rw [hq45]; rfl))) ?_; intro a238 u238 z238
    refine sp z238 rfl rfl (ex_move (u238.here _ rfl)) ?_; intro a240 u240 z240
    refine sp z240 rfl rfl (ex_extract (u240.here _ rfl) rfl) ?_; intro a241 u241 z241
    refine sp z241 rfl rfl (ex_extract ((u241.past 25 rfl).trans (u240.here _ rfl)) rfl) ?_; intro a242 u242 z242
    refine salloc z242 rfl (zv_57 _) ?_; intro b243 w243 a243 t243 g243 hb243 u243 z243
    have n244_ms_b243 := ne_lt (MapF.lt hm0_239) g243
    have n245_b1_b243 := ne_lt (lt_of hb1_27) g243
    have H_247 := (ArenaAt.keep H_11 t26)
    have o246 : ¬ Fp b243 := fun hQ => by have := ArenaAt.lt H_247 hQ; omega
    have x249 := (Touch.trans x13 (Ext.touch t26))
    have yb243_248 := Nat.le_trans (Touch.size x249) g243
    refine sstore (cs := [.int .u64 0, .int .u64 0]) (vs := [.int .u64 (hiW q45), .int .u64 (loW q45)]) (cs' := [.int .u64 (hiW q45), .int .u64 (loW q45)]) z243 rfl (u243.here _ rfl) ((u243.past 29 rfl).trans ((u242.past 29 rfl).trans (u241.here _ rfl))) hb243 (Try.sizeOf57 _) rfl rfl (by decide) (Nat.le_of_ble_eq_true rfl) rfl rfl ?_; intro w250 a250 t250 u250 z250
    refine sp z250 rfl rfl (ex_assign ((u250.past 30 rfl).trans ((u243.past 30 rfl).trans (u242.here _ rfl)))) ?_; intro a251 u251 z251
    have d252 := (u251.defs.trans (u250.defs.trans (u243.defs.trans (u242.defs.trans (u241.defs.trans (u240.defs.trans (u238.defs.trans (u42.defs.trans (u40.defs.trans d26)))))))))
    refine seq_end ?_
    refine then_norm ?_
    have s253_8 : a251.eval (.tmp 8) = .bool true := (u251.here _ rfl)
    refine rgs mixed 69 [.eq (.bool true)] [[(8, none)]] d252 z251 (by kernel_rfl) ⟨Ov rfl rfl fun _ _ T ⟨k8, _⟩ => ex_move (k8.trans s253_8), trivial⟩ ?_
    intro a254 w254 d254 z254 t254 e254 q254
    have s255_31 : a254.eval (.tmp 31) = .bool true := e254.1
    refine wp_cond_true s255_31 ?_
    refine wp_seq ?_
    refine seq_begin ?_
    have t250.here_257 := (Ext.keep t254 t250.here)
    refine sp z254 rfl rfl (ex_loadAgg (cs := [.int .u64 (hiW q45), .int .u64 (loW q45)]) ((q254 7 rfl).trans ((u251.past 7 rfl).trans ((u250.past 7 rfl).trans (u243.here _ rfl)))) (Try.isAgg57 _) (Try.sizeOf57 _) (cells_of (off := 0) t250.here_257 rfl)) ?_; intro a256 u256 z256
    have p259 := fr4 u40.past u42.past u238.past u240.past
    have p260 := fr4 u241.past u242.past u243.past u250.past
    have hb1_261 := (Ext.keep t254 (Turn.keep t250 (Ext.keep t243 hb1_27) n245_b1_b243))
    refine sstore (cs := [.int .u64 0, .int .u64 0]) (vs := [.int .u64 (hiW q45), .int .u64 (loW q45)]) (cs' := [.int .u64 (hiW q45), .int .u64 (loW q45)]) z256 rfl ((u256.past 6 rfl).trans ((q254 6 rfl).trans ((u251.past 6 rfl).trans ((p260 6 rfl).trans ((p259 6 rfl).trans ((q26 6 rfl).trans ((q10 6 rfl).trans ((q8 6 rfl).trans (u1.here _ rfl))))))))) (u256.here _ rfl) hb1_261 (Try.sizeOf57 _) rfl rfl (by decide) (Nat.le_of_ble_eq_true rfl) rfl rfl ?_; intro w258 a258 t258 u258 z258
    have d262 := (u258.defs.trans (u256.defs.trans d254))
    refine seq_end ?_
    refine then_norm ?_
    refine wp_ret ?_
    have s263_6 : a1.eval (.tmp 6) = .pointer (some ⟨b1, 0, none⟩) := (u1.here _ rfl)
    have p265 := fr4 u251.past q254 u256.past u258.past
    have s264_6 := ((p265 6 rfl).trans ((p260 6 rfl).trans ((p259 6 rfl).trans ((q26 6 rfl).trans ((q10 6 rfl).trans ((q8 6 rfl).trans s263_6))))))
    repeat (first | (with_reducible refine then_ret ?_) | (with_reducible refine block_ret ?_))
    refine retl (rs := [.cell 6 57]) Try.results76 ⟨⟨_, s264_6, run_loadVarA (cs := [.int .u64 (hiW q45), .int .u64 (loW q45)]) (Try.isAgg57 _) (Try.sizeOf57 _) (cells_of (off := 0) t258.here rfl)⟩, trivial⟩ d262 ?_
    have x266 := (Touch.turn (Touch.trans (Touch.turn (Touch.trans x249 (Ext.touch t243)) t250 (Or.inr yb243_248)) (Ext.touch t254)) t258 (Or.inr yb1_4))
    have eq := hs0 _ _ hq45
    rw [← eq]
    have hm0_267 := (MapF.same (MapF.keep (MapF.same (MapF.keep hm0_239 t243) (t250.touch.block _ (MapF.lt (MapF.keep hm0_239 t243)) n244_ms_b243)) t254) (t258.touch.block _ (MapF.lt (MapF.keep (MapF.same (MapF.keep hm0_239 t243) (t250.touch.block _ (MapF.lt (MapF.keep hm0_239 t243)) n244_ms_b243)) t254)) n2_ms_b1))
    exact ⟨rfl, x266, ⟨_, _, hm0_267, hs0⟩⟩

theorem c_count {w : World} {b ms : Nat} {Fp : Nat → Prop} {A : List N3} {most : Int} (H : ArenaAt w b Fp A most) (HM : MemoW w ms A) (hout : ¬ Fp ms) (hW : Wf A) (f : Int) (hf : Okn A f) : Calls Try.prog 76 #[.pointer (some ⟨b, 0, none⟩), .int .i64 f, .map (some ms)] w fun e w' => e = .returned (wv (cntN A f)) ∧ Touch (fun kQ => kQ = ms) w w' ∧ MemoW w' ms A := c_count_ (104 - lev A f).toNat H HM hout hW f hf (by omega)
end Go.Proofs.Yticodddigaiipaa
