/-
 Contracts of functions of the given program, each proved by a walk through its code: what a call answers, and what it leaves of memory; conditions: those ahead of each theorem's colon.
-/
import Derived.Test.YticodddigaiipaaSatS1
set_option linter.unusedVariables false
set_option linter.unusedSimpArgs false
namespace Go.Proofs.Yticodddigaiipaa
open Go.RowKit


theorem Grows.gw {A A' : List N3} {most e lv : Int} (h : Grows A A' most e lv) {V : List Int} (hV : LvIn V A) : Gw V A A' most e (2 ^ V.length) := (h V hV).mono (Nat.pow_le_pow_right (by omega) cnt_all)
theorem Gw.trans {V : List Int} {A A1 A2 : List N3} {most e : Int} {M N : Nat} (h1 : Gw V A A1 most 0 M) (h2 : Gw V A1 A2 most e N) : Gw V A A2 most e (M + N) :=
 ⟨h2.lv, by have := h1.len; have := h2.len; omega, fun he => by have := h1.len; have := h2.full he; omega⟩
theorem Gw.back {V : List Int} {A A' : List N3} {most e : Int} {M : Nat} (h : Gw V A A' most e M) (hV : LvIn V A) (hp : A <+: A') : Gw V A A most e M := ⟨hV, by have := h.len; have := hp.length_le; omega, h.full⟩
theorem Gw.zero {V : List Int} {A A' : List N3} {most e : Int} {M : Nat} (h : Gw V A A' most e M) (he : ¬ e ≠ 0) : Gw V A A' most 0 M := ⟨h.lv, h.len, fun hn => absurd rfl hn⟩
theorem cubic_one {x : Int} {on : Bool} (h : 0 ≤ x ∧ x < 104) : Cubic [(x, on)] := ⟨fun y hy => by rw [List.mem_singleton.1 hy]; exact h, by simp⟩
theorem cube_gw {A A' : List N3} {most x r c : Int} {on : Bool} (h : (A', r, c) = cubeF A most [(x, on)]) {V : List Int} (hx : x ∈ V) (hV : LvIn V A) (h2 : 2 ≤ A.length) : Gw V A A' most c 2 := by
 have e : cubeF A most [(x, on)] = mkF A most (x, if on then 0 else 1, if on then 1 else 0) ∨ ∃ c', c' ≠ 0 ∧ cubeF A most [(x, on)] = (A, 0, c') ∧ (mkF A most (x, if on then 0 else 1, if on then 1 else 0)).2.2 = c' := by
  by_cases hc : (mkF A most (x, if on then 0 else 1, if on then 1 else 0)).2.2 = 0
  ·left; simp [cubeF, hc]
  ·right; exact ⟨_, hc, by simp [cubeF, hc], rfl⟩
 have g := mk_gw (most := most) (x := (x, if on then 0 else 1, if on then 1 else 0)) hx hV h2
 rcases e with e | ⟨c', h1, e, h3⟩
 ·rw [← h] at e
  rw [← e] at g
  exact ⟨g.1, by have := g.2.1; simp only [] at this; omega, fun hc => by have := g.2.2 hc; omega⟩
 ·rw [← h] at e
  injection e with e1 e2
  injection e2 with e2 e3
  subst e1; subst e3
  exact ⟨hV, by omega, fun hc => by have := g.2.2 (by rw [h3]; exact h1); omega⟩

set_option maxRecDepth 100000 in
set_option maxHeartbeats 4000000 in
theorem c_Restrict {w : World} {b : Nat} {Fp : Nat → Prop} {A : List N3} {most : Int} (H : ArenaAt w b Fp A most) (hW : Wf A) (hm : (A.length : Int) ≤ most) (hm2 : most ≤ 262144) (i : Int) (on : Bool) (f : Int) (hi : 0 ≤ i ∧ i < 104) (hf : Okn A f) : Calls Try.prog 70 #[.pointer (some ⟨b, 0, none⟩), .int .i64 f, .int .i64 i, .bool on] w fun e w' => ∃ Fp' A' r c, e = .returned (.tuple #[.int .i64 r, .int .i64 c]) ∧ ArenaAt w' b Fp' A' most ∧ Mut Fp Fp' w w' ∧ Res A A' most c (HoldGood A A' i on f r) ∧ (c ≠ 0 → A' = A ∧ r = 0) ∧ ∀ V : List Int, LvIn V A → Gw V A A' most c (3 * 2 ^ V.length) := by
 have hl2 := hW.len
 refine enter 47 Try.ntmps70 Try.func70 rfl (Nat.le_of_ble_eq_true rfl) fun a0 d0 z0 hargs => ?_
 have s0_0 : a0.eval (.tmp 0) = .pointer (some ⟨b, 0, none⟩) := hargs 0 _ rfl
 have s0_1 : a0.eval (.tmp 1) = .int .i64 f := hargs 1 _ rfl
 have s0_2 : a0.eval (.tmp 2) = .int .i64 i := hargs 2 _ rfl
 have s0_3 : a0.eval (.tmp 3) = .bool on := hargs 3 _ rfl
 have x0 := Touch.refl Fp w
 refine rgs mixed 47 [.eq (.int .i64 0), .eq (.int .i64 0)] [[], []] d0 z0 (by kernel_rfl) ⟨Ov rfl rfl fun _ _ T _ => ex_assign rfl, Ov rfl rfl fun _ _ T _ => ex_assign rfl, trivial⟩ ?_
 intro a1 w1 d1 z1 t1 e1 q1
 refine wp_seq_k fun K2 hK2 => ?_
 refine wp_block ?_
 have s3_0 := ((q1 0 rfl).trans s0_0)
 refine rgs mixed 47 [.eq (.pointer (some ⟨b, 0, none⟩)), .eq (.bool false), .eq (.bool false)] [[(0, none)], [(14, some 0)], [(15, some 1)]] d1 z1 (by kernel_rfl) ⟨Ov rfl rfl fun _ _ T ⟨k0, _⟩ => ex_move (k0.trans s3_0), Ov rfl rfl fun _ _ T ⟨k14, _⟩ => ex_ptr_eql_nil k14 rfl (by kernel_rfl), Ov rfl rfl fun _ _ T ⟨k15, _⟩ => ex_assign k15, trivial⟩ ?_
 intro a4 w4 d4 z4 t4 e4 q4
 have s5_13 : a4.eval (.tmp 13) = .bool false := e4.2.2.1
 refine wp_cond_false s5_13 ?_
 refine wp_seq ?_
 refine seq_begin ?_
 refine sp z4 rfl rfl (ex_move ((q4 0 rfl).trans s3_0)) ?_; intro a6 u6 z6
 refine sp z6 rfl rfl (ex_move ((u6.past 1 rfl).trans ((q4 1 rfl).trans ((q1 1 rfl).trans s0_1)))) ?_; intro a7 u7 z7
 have H_9 := (ArenaAt.keep (ArenaAt.keep H t1) t4)
 refine scx z7 rfl rfl (exl_call Try.func62 rfl rfl (cons_ops ((u7.past 17 rfl).trans (u6.here _ rfl)) (cons_ops (u7.here _ rfl) nil_ops))) (a_has H_9 _) ?_; intro w8 a8 t8 u8 z8
 refine sp z8 rfl rfl (ex_not (u8.here _ rfl)) ?_; intro a10 u10 z10
 refine sp z10 rfl rfl (ex_move (u10.here _ rfl)) ?_; intro a11 u11 z11
 have p13 := fr4 q1 q4 u6.past u7.past
 refine sg z11 rfl rfl rfl (u11.here _ rfl) (fun hcQ => ex_move ((u11.past 2 rfl).trans ((u10.past 2 rfl).trans ((u8.past 2 rfl).trans ((p13 2 rfl).trans s0_2))))) ?_; intro a12 u12 z12
 refine sg z12 rfl rfl rfl ((u12.past 21 rfl).trans (u11.here _ rfl)) (fun hcQ => ex_lss ((u12.here _ rfl).trans (if_pos hcQ)) rfl) ?_; intro a14 u14 z14
 refine sp z14 rfl rfl (ex_pick_or ((u14.past 21 rfl).trans ((u12.past 21 rfl).trans (u11.here _ rfl))) rfl (u14.here _ rfl)) ?_; intro a15 u15 z15
 refine sp z15 rfl rfl (ex_move (u15.here _ rfl)) ?_; intro a16 u16 z16
 have p18 := fr4 u8.past u10.past u11.past u12.past
 refine sg z16 rfl rfl rfl (u16.here _ rfl) (fun hcQ => ex_move ((u16.past 2 rfl).trans ((u15.past 2 rfl).trans ((u14.past 2 rfl).trans ((p18 2 rfl).trans ((p13 2 rfl).trans s0_2)))))) ?_; intro a17 u17 z17
 refine sg z17 rfl rfl rfl ((u17.past 25 rfl).trans (u16.here _ rfl)) (fun hcQ => ex_geq ((u17.here _ rfl).trans (if_pos hcQ)) rfl) ?_; intro a19 u19 z19
 refine sp z19 rfl rfl (ex_pick_or ((u19.past 25 rfl).trans ((u17.past 25 rfl).trans (u16.here _ rfl))) rfl (u19.here _ rfl)) ?_; intro a20 u20 z20
 refine sp z20 rfl rfl (ex_assign (u20.here _ rfl)) ?_; intro a21 u21 z21
 have d22 := (u21.defs.trans (u20.defs.trans (u19.defs.trans (u17.defs.trans (u16.defs.trans (u15.defs.trans (u14.defs.trans (u12.defs.trans (u11.defs.trans (u10.defs.trans (u8.defs.trans (u7.defs.trans (u6.defs.trans d4)))))))))))))
 refine seq_end ?_
 refine then_norm ?_
 have x23 := (Touch.trans (Touch.trans (Touch.trans x0 (Ext.touch t1)) (Ext.touch t4)) (Ext.touch t8))
 rcases Bool.eq_false_or_eq_true (((!(decide (Okn A f))) || (decide (i < 0))) || (decide (104 ≤ i))) with y24 | y24
 ·have c24 := y24; try simp only [Bool.and_eq_true, Bool.or_eq_true, Bool.and_eq_false_iff, Bool.or_eq_false_iff, Bool.not_eq_true', Bool.not_eq_false', decide_eq_true_eq, decide_eq_false_iff_not] at c24
  have s25_16 : a21.eval (.tmp 16) = .bool (((!(decide (Okn A f))) || (decide (i < 0))) || (decide (104 ≤ i))) := (u21.here _ rfl)
  refine wp_cond_true (s25_16.trans (by rw [y24])) ?_
  refine rgs mixed 47 [.eq (.int .i64 0), .eq (.int .i64 1)] [[], []] d22 z21 (by kernel_rfl) ⟨Ov rfl rfl fun _ _ T _ => ex_assign rfl, Ov rfl rfl fun _ _ T _ => ex_assign rfl, trivial⟩ ?_
  intro a26 w26 d26 z26 t26 e26 q26
  refine wp_ret ?_
  have s27_8 : a26.eval (.tmp 8) = .int .i64 0 := e26.1
  have s28_9 : a26.eval (.tmp 9) = .int .i64 1 := e26.2.1
  repeat (first | (with_reducible refine then_ret ?_) | (with_reducible refine block_ret ?_))
  refine rett (rs := [.tmp 8, .tmp 9]) (vs := [.int .i64 0, .int .i64 1]) Try.results70 ⟨s27_8, ⟨s28_9, trivial⟩⟩ (by simp) d26 ?_
  exfalso; simp only [Okn, Bool.or_eq_true, Bool.not_eq_true', decide_eq_true_eq, decide_eq_false_iff_not] at *; omega
 ·have c24 := y24; try simp only [Bool.and_eq_true, Bool.or_eq_true, Bool.and_eq_false_iff, Bool.or_eq_false_iff, Bool.not_eq_true', Bool.not_eq_false', decide_eq_true_eq, decide_eq_false_iff_not] at c24
  have s29_16 : a21.eval (.tmp 16) = .bool (((!(decide (Okn A f))) || (decide (i < 0))) || (decide (104 ≤ i))) := (u21.here _ rfl)
  refine wp_cond_false (s29_16.trans (by rw [y24])) ?_
  refine wp_skip ?_
  repeat (with_reducible refine block_norm ?_)
  refine hK2 _ _ ?_
  refine wp_seq ?_
  refine seq_begin ?_
  have p31 := fr4 u14.past u15.past u16.past u17.past
  refine sp z21 rfl rfl (ex_move ((u21.past 0 rfl).trans ((u20.past 0 rfl).trans ((u19.past 0 rfl).trans ((p31 0 rfl).trans ((p18 0 rfl).trans ((u7.past 0 rfl).trans ((u6.past 0 rfl).trans ((q4 0 rfl).trans s3_0))))))))) ?_; intro a30 u30 z30
  have H_33 := (ArenaAt.keep H_9 t8)
  refine scx z30 rfl rfl (exl_call Try.func16 rfl rfl (cons_ops (u30.here _ rfl) nil_ops)) (a_len H_33) ?_; intro w32 a32 t32 u32 z32
  refine sp z32 rfl rfl (ex_assign (u32.here _ rfl)) ?_; intro a34 u34 z34
  have d35 := (u34.defs.trans (u32.defs.trans (u30.defs.trans d22)))
  refine seq_end ?_
  refine then_norm ?_
  refine wp_seq ?_
  refine seq_begin ?_
  have p37 := fr4 u19.past u20.past u21.past u30.past
  refine sp z34 rfl rfl (ex_move ((u34.past 0 rfl).trans ((u32.past 0 rfl).trans ((p37 0 rfl).trans ((p31 0 rfl).trans ((p18 0 rfl).trans ((u7.past 0 rfl).trans ((u6.past 0 rfl).trans ((q4 0 rfl).trans s3_0))))))))) ?_; intro a36 u36 z36
  have p39 := fr4 p13 p18 p31 p37
  refine sp z36 rfl rfl (ex_move ((u36.past 1 rfl).trans ((u34.past 1 rfl).trans ((u32.past 1 rfl).trans ((p39 1 rfl).trans s0_1))))) ?_; intro a38 u38 z38
  have p41 := fr4 u32.past u34.past u36.past u38.past
  refine sp z38 rfl rfl (ex_move ((p41 2 rfl).trans ((p39 2 rfl).trans s0_2))) ?_; intro a40 u40 z40
  refine sp z40 rfl rfl (ex_move ((u40.past 3 rfl).trans ((p41 3 rfl).trans ((p39 3 rfl).trans s0_3)))) ?_; intro a42 u42 z42
  refine snew (mk := fun bQ => .map (some bQ)) z42 rfl rfl (ex_makeMap Try.underlying197) ?_; intro b43 w43 a43 t43 g43 hb43 u43 z43
  have H_45 := (ArenaAt.keep H_33 t32)
  have o44 : ¬ Fp b43 := fun hQ => by have := ArenaAt.lt H_45 hQ; omega
  have x47 := (Touch.trans x23 (Ext.touch t32))
  have yb43_46 := Nat.le_trans (Touch.size x47) g43
  have hm43 := MapF.made (ek := iv) (ev := iv) hb43
  have H_49 := (ArenaAt.keep H_45 t43)
  refine sc z43 rfl rfl (exl_call Try.func107 rfl rfl (cons_ops ((u43.past 32 rfl).trans ((u42.past 32 rfl).trans ((u40.past 32 rfl).trans ((u38.past 32 rfl).trans (u36.here _ rfl))))) (cons_ops ((u43.past 33 rfl).trans ((u42.past 33 rfl).trans ((u40.past 33 rfl).trans (u38.here _ rfl)))) (cons_ops ((u43.past 34 rfl).trans ((u42.past 34 rfl).trans (u40.here _ rfl))) (cons_ops ((u43.past 35 rfl).trans (u42.here _ rfl)) (cons_ops (u43.here _ rfl) nil_ops)))))) (c_limit H_49 hm43 o44 i on f hi hW hm hm2 (HeldOk.none _ _ _) hf) ?_
  rintro e48 w48 ⟨Fp48, A48, r48, c48, S48, n48, he48, J48⟩; refine ⟨_, he48, ?_⟩; intro a48 u48 z48
  have i50 := fun jQ (hQ : (Fj b43 Fp) jQ) => (hQ.elim (fun eQ => by rw [eQ]; exact (Or.inr yb43_46)) ((fun jQ hQ => Or.inl hQ) jQ) : (Fp) jQ ∨ w.heap.size ≤ jQ)
  have x51 := (Touch.trans x47 (Ext.touch t43))
  have i52 := Mut.inF J48.mt x51 i50
  refine sp z48 rfl rfl (ex_move (u48.here _ rfl)) ?_; intro a53 u53 z53
  refine sp z53 rfl rfl (ex_extract (u53.here _ rfl) rfl) ?_; intro a54 u54 z54
  refine sp z54 rfl rfl (ex_extract ((u54.past 31 rfl).trans (u53.here _ rfl)) rfl) ?_; intro a55 u55 z55
  refine sp z55 rfl rfl (ex_assign ((u55.past 38 rfl).trans (u54.here _ rfl))) ?_; intro a56 u56 z56
  refine sp z56 rfl rfl (ex_assign ((u56.past 39 rfl).trans (u55.here _ rfl))) ?_; intro a57 u57 z57
  have d58 := (u57.defs.trans (u56.defs.trans (u55.defs.trans (u54.defs.trans (u53.defs.trans (u48.defs.trans (u43.defs.trans (u42.defs.trans (u40.defs.trans (u38.defs.trans (u36.defs.trans d35)))))))))))
  refine seq_end ?_
  refine then_norm ?_
  refine wp_seq_k fun K59 hK59 => ?_
  have s60_12 : a57.eval (.tmp 12) = .int .i64 c48 := (u57.here _ rfl)
  refine rgs mixed 47 [.eq (.int .i64 c48), .eq (.bool (decide (c48 ≠ 0)))] [[(12, none)], [(40, some 0)]] d58 z57 (by kernel_rfl) ⟨Ov rfl rfl fun _ _ T ⟨k12, _⟩ => ex_move (k12.trans s60_12), Ov rfl rfl fun _ _ T ⟨k40, _⟩ => ex_neq k40 rfl, trivial⟩ ?_
  intro a61 w61 d61 z61 t61 e61 q61
  have x62 := (Touch.trans (Touch.mut x51 J48.mt i50) (Ext.touch t61))
  by_cases c63 : c48 ≠ 0
  ·have y63 := decide_eq_true c63
   have s64_41 : a61.eval (.tmp 41) = .bool (decide (c48 ≠ 0)) := e61.2.1
   refine wp_cond_true (s64_41.trans (by rw [y63])) ?_
   have len2 := J48.res.wf.len; have roomm := J48.res.room
   refine wp_seq ?_
   refine seq_begin ?_
   have p66 := fr4 u40.past u42.past u43.past u48.past
   have p67 := fr4 u53.past u54.past u55.past u56.past
   refine sp z61 rfl rfl (ex_move ((q61 0 rfl).trans ((u57.past 0 rfl).trans ((p67 0 rfl).trans ((p66 0 rfl).trans ((p41 0 rfl).trans ((p37 0 rfl).trans ((p31 0 rfl).trans ((p18 0 rfl).trans ((u7.past 0 rfl).trans ((u6.past 0 rfl).trans ((q4 0 rfl).trans s3_0)))))))))))) ?_; intro a65 u65 z65
   refine sp z65 rfl rfl (ex_move ((u65.past 10 rfl).trans ((q61 10 rfl).trans ((u57.past 10 rfl).trans ((p67 10 rfl).trans ((p66 10 rfl).trans ((u38.past 10 rfl).trans ((u36.past 10 rfl).trans (u34.here _ rfl))))))))) ?_; intro a68 u68 z68
   have J48.at__70 := (ArenaAt.keep J48.at_ t61)
   refine sc z68 rfl rfl (exl_call Try.func101 rfl rfl (cons_ops ((u68.past 42 rfl).trans (u65.here _ rfl)) (cons_ops (u68.here _ rfl) nil_ops))) (c_cut J48.at__70 (A.length : Int) (by omega) (by omega) J48.res.wf.nodup) ?_
   rintro e69 w69 ⟨he69, H69, m69⟩; refine ⟨_, he69, ?_⟩; intro a69 u69 z69
   have J48.seen_71 := (MapF.keep J48.seen t61)
   have o72 := Mut.out m69 (MapF.lt J48.seen_71) J48.out
   have i73 := Mut.inF m69 x62 (fun jQ hQ => i52 jQ (Or.inr hQ))
   have d74 := (u69.defs.trans (u68.defs.trans (u65.defs.trans d61)))
   refine seq_end ?_
   refine then_norm ?_
   have s75_12 := ((u69.past 12 rfl).trans ((u68.past 12 rfl).trans ((u65.past 12 rfl).trans ((q61 12 rfl).trans s60_12))))
   refine rgs mixed 47 [.eq (.int .i64 c48), .eq (.int .i64 0), .eq (.int .i64 c48)] [[(12, none)], [], [(45, some 0)]] d74 z69 (by kernel_rfl) ⟨Ov rfl rfl fun _ _ T ⟨k12, _⟩ => ex_move (k12.trans s75_12), Ov rfl rfl fun _ _ T _ => ex_assign rfl, Ov rfl rfl fun _ _ T ⟨k45, _⟩ => ex_assign k45, trivial⟩ ?_
   intro a76 w76 d76 z76 t76 e76 q76
   refine wp_ret ?_
   have s77_8 : a76.eval (.tmp 8) = .int .i64 0 := e76.2.1
   have s78_9 : a76.eval (.tmp 9) = .int .i64 c48 := e76.2.2.1
   repeat (first | (with_reducible refine then_ret ?_) | (with_reducible refine block_ret ?_))
   refine rett (rs := [.tmp 8, .tmp 9]) (vs := [.int .i64 0, .int .i64 c48]) Try.results70 ⟨s77_8, ⟨s78_9, trivial⟩⟩ (by simp) d76 ?_
   have et := take_pre J48.res.pre hl2 (n := (A.length : Int)) rfl
   have H69_79 := (ArenaAt.keep H69 t76)
   have HH := H69_79
   rw [et] at HH
   have x80 := (Touch.trans (Touch.mut x62 m69 i73) (Ext.touch t76))
   exact ⟨_, _, _, _, rfl, HH, ⟨x80, i73⟩, J48.res.back hW hm c63, fun _ => ⟨rfl, rfl⟩, fun V hV => (J48.gr.back.gw hV).mono (by have := Nat.pow_pos (n := V.length) (show 0 < 2 by omega); omega)⟩
  ·have y63 := decide_eq_false c63
   have s81_41 : a61.eval (.tmp 41) = .bool (decide (c48 ≠ 0)) := e61.2.1
   refine wp_cond_false (s81_41.trans (by rw [y63])) ?_
   refine wp_skip ?_
   repeat (with_reducible refine block_norm ?_)
   refine hK59 _ _ ?_
   have s82_11 : a56.eval (.tmp 11) = .int .i64 r48 := (u56.here _ rfl)
   have s83_11 := ((q61 11 rfl).trans ((u57.past 11 rfl).trans s82_11))
   refine rgs mixed 47 [.eq (.int .i64 r48), .eq (.int .i64 r48), .eq (.int .i64 0)] [[(11, none)], [(46, some 0)], []] d61 z61 (by kernel_rfl) ⟨Ov rfl rfl fun _ _ T ⟨k11, _⟩ => ex_move (k11.trans s83_11), Ov rfl rfl fun _ _ T ⟨k46, _⟩ => ex_assign k46, Ov rfl rfl fun _ _ T _ => ex_assign rfl, trivial⟩ ?_
   intro a84 w84 d84 z84 t84 e84 q84
   refine wp_ret ?_
   have s85_8 : a84.eval (.tmp 8) = .int .i64 r48 := e84.2.1
   have s86_9 : a84.eval (.tmp 9) = .int .i64 0 := e84.2.2.1
   repeat (first | (with_reducible refine then_ret ?_) | (with_reducible refine block_ret ?_))
   refine rett (rs := [.tmp 8, .tmp 9]) (vs := [.int .i64 r48, .int .i64 0]) Try.results70 ⟨s85_8, ⟨s86_9, trivial⟩⟩ (by simp) d84 ?_
   have J48.at__87 := (ArenaAt.keep (ArenaAt.keep J48.at_ t61) t84)
   have x88 := (Touch.trans x62 (Ext.touch t84))
   exact ⟨_, _, _, _, rfl, J48.at__87, ⟨x88, (fun jQ hQ => i52 jQ (Or.inr hQ))⟩, J48.res.zero c63, fun hQ => absurd rfl hQ, fun V hV => ((J48.gr.zero c63).gw hV).mono (by have := Nat.pow_pos (n := V.length) (show 0 < 2 by omega); omega)⟩

set_option maxRecDepth 100000 in
set_option maxHeartbeats 4000000 in
theorem c_Not {w : World} {b : Nat} {Fp : Nat → Prop} {A : List N3} {most : Int} (H : ArenaAt w b Fp A most) (hW : Wf A) (hm : (A.length : Int) ≤ most) (hm2 : most ≤ 262144) (f : Int) (hf : Okn A f) : Calls Try.prog 69 #[.pointer (some ⟨b, 0, none⟩), .int .i64 f] w fun e w' => ∃ Fp' A' r c, e = .returned (.tuple #[.int .i64 r, .int .i64 c]) ∧ ArenaAt w' b Fp' A' most ∧ Mut Fp Fp' w w' ∧ Res A A' most c (Okn A' r ∧ ∀ v, den A' v r = !den A v f) ∧ (c ≠ 0 → A' = A ∧ r = 0) ∧ ∀ V : List Int, LvIn V A → Gw V A A' most c (3 * 2 ^ V.length) := by
 have hl2 := hW.len
 refine enter 11 Try.ntmps69 Try.func69 rfl (Nat.le_of_ble_eq_true rfl) fun a0 d0 z0 hargs => ?_
 have s0_0 : a0.eval (.tmp 0) = .pointer (some ⟨b, 0, none⟩) := hargs 0 _ rfl
 have s0_1 : a0.eval (.tmp 1) = .int .i64 f := hargs 1 _ rfl
 have x0 := Touch.refl Fp w
 refine rgs mixed 11 [.eq (.int .i64 0), .eq (.int .i64 0)] [[], []] d0 z0 (by kernel_rfl) ⟨Ov rfl rfl fun _ _ T _ => ex_assign rfl, Ov rfl rfl fun _ _ T _ => ex_assign rfl, trivial⟩ ?_
 intro a1 w1 d1 z1 t1 e1 q1
 refine wp_seq ?_
 refine seq_begin ?_
 refine sp z1 rfl rfl (ex_move ((q1 0 rfl).trans s0_0)) ?_; intro a2 u2 z2
 refine sp z2 rfl rfl (ex_move ((u2.past 1 rfl).trans ((q1 1 rfl).trans s0_1))) ?_; intro a3 u3 z3
 have H_5 := (ArenaAt.keep H t1)
 refine sc z3 rfl rfl (exl_call Try.func68 rfl rfl (cons_ops ((u3.past 6 rfl).trans (u2.here _ rfl)) (cons_ops rfl (cons_ops rfl (cons_ops (u3.here _ rfl) nil_ops))))) (c_Join H_5 hW hm hm2 3 1 f (by omega) ⟨by omega, by omega⟩ hf) ?_
 rintro e4 w4 ⟨Fp4, A4, r4, c4, he4, H4, m4, R4, back4, more4⟩; refine ⟨_, he4, ?_⟩; intro a4 u4 z4
 have x6 := (Touch.trans x0 (Ext.touch t1))
 have i7 := Mut.inF m4 x6 (fun jQ hQ => Or.inl hQ)
 refine sp z4 rfl rfl (ex_extract (u4.here _ rfl) rfl) ?_; intro a8 u8 z8
 refine sp z8 rfl rfl (ex_extract ((u8.past 8 rfl).trans (u4.here _ rfl)) rfl) ?_; intro a9 u9 z9
 refine sp z9 rfl rfl (ex_assign ((u9.past 9 rfl).trans (u8.here _ rfl))) ?_; intro a10 u10 z10
 refine sp z10 rfl rfl (ex_assign ((u10.past 10 rfl).trans (u9.here _ rfl))) ?_; intro a11 u11 z11
 have d12 := (u11.defs.trans (u10.defs.trans (u9.defs.trans (u8.defs.trans (u4.defs.trans (u3.defs.trans (u2.defs.trans d1)))))))
 refine seq_end ?_
 refine then_norm ?_
 refine wp_ret ?_
 have s13_4 : a10.eval (.tmp 4) = .int .i64 r4 := (u10.here _ rfl)
 have s14_4 := ((u11.past 4 rfl).trans s13_4)
 have s15_5 : a11.eval (.tmp 5) = .int .i64 c4 := (u11.here _ rfl)
 repeat (first | (with_reducible refine then_ret ?_) | (with_reducible refine block_ret ?_))
 refine rett (rs := [.tmp 4, .tmp 5]) (vs := [.int .i64 r4, .int .i64 c4]) Try.results69 ⟨s14_4, ⟨s15_5, trivial⟩⟩ (by simp) d12 ?_
 have x16 := (Touch.mut x6 m4 (fun jQ hQ => Or.inl hQ))
 exact ⟨_, _, _, _, rfl, H4, ⟨x16, i7⟩, R4.imp fun hQ => ⟨hQ.1, fun v => by rw [hQ.2.1 v]; simp [opK, den_one]⟩, back4, fun V hV => (more4.gw hV).mono (by have := Nat.pow_pos (n := V.length) (show 0 < 2 by omega); omega)⟩

set_option maxRecDepth 100000 in
set_option maxHeartbeats 4000000 in
theorem c_Ite {w : World} {b : Nat} {Fp : Nat → Prop} {A : List N3} {most : Int} (H : ArenaAt w b Fp A most) (hW : Wf A) (hm : (A.length : Int) ≤ most) (hm2 : most ≤ 262144) (f g h : Int) (hf : Okn A f) (hg : Okn A g) (hh : Okn A h) : Calls Try.prog 71 #[.pointer (some ⟨b, 0, none⟩), .int .i64 f, .int .i64 g, .int .i64 h] w fun e w' => ∃ Fp' A' r c, e = .returned (.tuple #[.int .i64 r, .int .i64 c]) ∧ ArenaAt w' b Fp' A' most ∧ Mut Fp Fp' w w' ∧ Res A A' most c (Okn A' r ∧ ∀ v, den A' v r = if den A v f then den A v g else den A v h) ∧ (c ≠ 0 → A' = A ∧ r = 0) ∧ ∀ V : List Int, LvIn V A → Gw V A A' most c (3 * 2 ^ V.length) := by
 have hl2 := hW.len
 refine enter 56 Try.ntmps71 Try.func71 rfl (Nat.le_of_ble_eq_true rfl) fun a0 d0 z0 hargs => ?_
 have s0_0 : a0.eval (.tmp 0) = .pointer (some ⟨b, 0, none⟩) := hargs 0 _ rfl
 have s0_1 : a0.eval (.tmp 1) = .int .i64 f := hargs 1 _ rfl
 have s0_2 : a0.eval (.tmp 2) = .int .i64 g := hargs 2 _ rfl
 have s0_3 : a0.eval (.tmp 3) = .int .i64 h := hargs 3 _ rfl
 have x0 := Touch.refl Fp w
 refine rgs mixed 56 [.eq (.int .i64 0), .eq (.int .i64 0)] [[], []] d0 z0 (by kernel_rfl) ⟨Ov rfl rfl fun _ _ T _ => ex_assign rfl, Ov rfl rfl fun _ _ T _ => ex_assign rfl, trivial⟩ ?_
 intro a1 w1 d1 z1 t1 e1 q1
 refine wp_seq_k fun K2 hK2 => ?_
 refine wp_seq ?_
 refine seq_begin ?_
 refine sp z1 rfl rfl (ex_move ((q1 0 rfl).trans s0_0)) ?_; intro a3 u3 z3
 refine sp z3 rfl rfl (ex_move ((u3.past 3 rfl).trans ((q1 3 rfl).trans s0_3))) ?_; intro a4 u4 z4
 have H_6 := (ArenaAt.keep H t1)
 refine scx z4 rfl rfl (exl_call Try.func62 rfl rfl (cons_ops ((u4.past 14 rfl).trans (u3.here _ rfl)) (cons_ops (u4.here _ rfl) nil_ops))) (a_has H_6 _) ?_; intro w5 a5 t5 u5 z5
 refine sp z5 rfl rfl (ex_not (u5.here _ rfl)) ?_; intro a7 u7 z7
 refine sp z7 rfl rfl (ex_move (u7.here _ rfl)) ?_; intro a8 u8 z8
 have p10 := fr4 q1 u3.past u4.past u5.past
 refine sg z8 rfl rfl rfl (u8.here _ rfl) (fun hcQ => ex_move ((u8.past 0 rfl).trans ((u7.past 0 rfl).trans ((p10 0 rfl).trans s0_0)))) ?_; intro a9 u9 z9
 refine sg z9 rfl rfl rfl ((u9.past 18 rfl).trans (u8.here _ rfl)) (fun hcQ => ex_ptr_neq_nil ((u9.here _ rfl).trans (if_pos hcQ)) rfl (by kernel_rfl)) ?_; intro a11 u11 z11
 refine sp z11 rfl rfl (ex_pick_and ((u11.past 18 rfl).trans ((u9.past 18 rfl).trans (u8.here _ rfl))) (u11.here _ rfl) rfl) ?_; intro a12 u12 z12
 have d13 := (u12.defs.trans (u11.defs.trans (u9.defs.trans (u8.defs.trans (u7.defs.trans (u5.defs.trans (u4.defs.trans (u3.defs.trans d1))))))))
 refine seq_end ?_
 refine then_norm ?_
 have x14 := (Touch.trans (Touch.trans x0 (Ext.touch t1)) (Ext.touch t5))
 rcases Bool.eq_false_or_eq_true ((!(decide (Okn A h))) && true) with y15 | y15
 ·have c15 := y15; try simp only [Bool.and_eq_true, Bool.or_eq_true, Bool.and_eq_false_iff, Bool.or_eq_false_iff, Bool.not_eq_true', Bool.not_eq_false', decide_eq_true_eq, decide_eq_false_iff_not] at c15
  have s16_21 : a12.eval (.tmp 21) = .bool ((!(decide (Okn A h))) && true) := (u12.here _ rfl)
  refine wp_cond_true (s16_21.trans (by rw [y15])) ?_
  refine rgs mixed 56 [.eq (.int .i64 0), .eq (.int .i64 1)] [[], []] d13 z12 (by kernel_rfl) ⟨Ov rfl rfl fun _ _ T _ => ex_assign rfl, Ov rfl rfl fun _ _ T _ => ex_assign rfl, trivial⟩ ?_
  intro a17 w17 d17 z17 t17 e17 q17
  refine wp_ret ?_
  have s18_8 : a17.eval (.tmp 8) = .int .i64 0 := e17.1
  have s19_9 : a17.eval (.tmp 9) = .int .i64 1 := e17.2.1
  repeat (first | (with_reducible refine then_ret ?_) | (with_reducible refine block_ret ?_))
  refine rett (rs := [.tmp 8, .tmp 9]) (vs := [.int .i64 0, .int .i64 1]) Try.results71 ⟨s18_8, ⟨s19_9, trivial⟩⟩ (by simp) d17 ?_
  exfalso; simp only [Okn, Bool.and_eq_true, Bool.not_eq_true', decide_eq_true_eq, decide_eq_false_iff_not] at *; omega
 ·have c15 := y15; try simp only [Bool.and_eq_true, Bool.or_eq_true, Bool.and_eq_false_iff, Bool.or_eq_false_iff, Bool.not_eq_true', Bool.not_eq_false', decide_eq_true_eq, decide_eq_false_iff_not] at c15
  have s20_21 : a12.eval (.tmp 21) = .bool ((!(decide (Okn A h))) && true) := (u12.here _ rfl)
  refine wp_cond_false (s20_21.trans (by rw [y15])) ?_
  refine wp_skip ?_
  repeat (with_reducible refine block_norm ?_)
  refine hK2 _ _ ?_
  refine wp_seq ?_
  refine seq_begin ?_
  have p22 := fr4 u7.past u8.past u9.past u11.past
  refine sp z12 rfl rfl (ex_move ((u12.past 0 rfl).trans ((p22 0 rfl).trans ((p10 0 rfl).trans s0_0)))) ?_; intro a21 u21 z21
  have H_24 := (ArenaAt.keep H_6 t5)
  refine scx z21 rfl rfl (exl_call Try.func16 rfl rfl (cons_ops (u21.here _ rfl) nil_ops)) (a_len H_24) ?_; intro w23 a23 t23 u23 z23
  refine sp z23 rfl rfl (ex_assign (u23.here _ rfl)) ?_; intro a25 u25 z25
  have d26 := (u25.defs.trans (u23.defs.trans (u21.defs.trans d13)))
  refine seq_end ?_
  refine then_norm ?_
  refine wp_seq ?_
  refine seq_begin ?_
  have p28 := fr4 u12.past u21.past u23.past u25.past
  refine sp z25 rfl rfl (ex_move ((p28 0 rfl).trans ((p22 0 rfl).trans ((p10 0 rfl).trans s0_0)))) ?_; intro a27 u27 z27
  refine sp z27 rfl rfl (ex_move ((u27.past 1 rfl).trans ((p28 1 rfl).trans ((p22 1 rfl).trans ((p10 1 rfl).trans s0_1))))) ?_; intro a29 u29 z29
  refine sp z29 rfl rfl (ex_move ((u29.past 2 rfl).trans ((u27.past 2 rfl).trans ((p28 2 rfl).trans ((p22 2 rfl).trans ((p10 2 rfl).trans s0_2)))))) ?_; intro a30 u30 z30
  have H_32 := (ArenaAt.keep H_24 t23)
  refine sc z30 rfl rfl (exl_call Try.func68 rfl rfl (cons_ops ((u30.past 25 rfl).trans ((u29.past 25 rfl).trans (u27.here _ rfl))) (cons_ops rfl (cons_ops ((u30.past 26 rfl).trans (u29.here _ rfl)) (cons_ops (u30.here _ rfl) nil_ops))))) (c_Join H_32 hW hm hm2 0 f g (by omega) hf hg) ?_
  rintro e31 w31 ⟨Fp31, A31, r31, c31, he31, H31, m31, R31, back31, more31⟩; refine ⟨_, he31, ?_⟩; intro a31 u31 z31
  have x33 := (Touch.trans x14 (Ext.touch t23))
  have i34 := Mut.inF m31 x33 (fun jQ hQ => Or.inl hQ)
  refine sp z31 rfl rfl (ex_move (u31.here _ rfl)) ?_; intro a35 u35 z35
  refine sp z35 rfl rfl (ex_extract (u35.here _ rfl) rfl) ?_; intro a36 u36 z36
  refine sp z36 rfl rfl (ex_extract ((u36.past 24 rfl).trans (u35.here _ rfl)) rfl) ?_; intro a37 u37 z37
  refine sp z37 rfl rfl (ex_assign ((u37.past 29 rfl).trans (u36.here _ rfl))) ?_; intro a38 u38 z38
  refine sp z38 rfl rfl (ex_assign ((u38.past 30 rfl).trans (u37.here _ rfl))) ?_; intro a39 u39 z39
  have d40 := (u39.defs.trans (u38.defs.trans (u37.defs.trans (u36.defs.trans (u35.defs.trans (u31.defs.trans (u30.defs.trans (u29.defs.trans (u27.defs.trans d26)))))))))
  refine seq_end ?_
  refine then_norm ?_
  refine wp_seq_k fun K41 hK41 => ?_
  have s42_12 : a39.eval (.tmp 12) = .int .i64 c31 := (u39.here _ rfl)
  refine rgs mixed 56 [.eq (.int .i64 c31), .eq (.bool (decide (c31 = 0)))] [[(12, none)], [(31, some 0)]] d40 z39 (by kernel_rfl) ⟨Ov rfl rfl fun _ _ T ⟨k12, _⟩ => ex_move (k12.trans s42_12), Ov rfl rfl fun _ _ T ⟨k31, _⟩ => ex_eql k31 rfl, trivial⟩ ?_
  intro a43 w43 d43 z43 t43 e43 q43
  have x44 := (Touch.trans (Touch.mut x33 m31 (fun jQ hQ => Or.inl hQ)) (Ext.touch t43))
  by_cases c45 : c31 = 0
  ·have y45 := decide_eq_true c45
   have s46_32 : a43.eval (.tmp 32) = .bool (decide (c31 = 0)) := e43.2.1
   refine wp_cond_true (s46_32.trans (by rw [y45])) ?_
   refine rgs mixed 56 [.eq (.int .i64 0)] [[]] d43 z43 (by kernel_rfl) ⟨Ov rfl rfl fun _ _ T _ => ex_assign rfl, trivial⟩ ?_
   intro a47 w47 d47 z47 t47 e47 q47
   have gd0 := R31.ok.elim (fun hQ => hQ.2) (fun hQ => absurd hQ (by have := c45; omega))
   refine wp_seq ?_
   refine seq_begin ?_
   have p49 := fr4 u27.past u29.past u30.past u31.past
   have p50 := fr4 p10 p22 p28 p49
   have p51 := fr4 u35.past u36.past u37.past u38.past
   refine sp z47 rfl rfl (ex_move ((q47 0 rfl).trans ((q43 0 rfl).trans ((u39.past 0 rfl).trans ((p51 0 rfl).trans ((p50 0 rfl).trans s0_0)))))) ?_; intro a48 u48 z48
   have p53 := fr4 u39.past q43 q47 u48.past
   refine sp z48 rfl rfl (ex_move ((p53 3 rfl).trans ((p51 3 rfl).trans ((p50 3 rfl).trans s0_3)))) ?_; intro a52 u52 z52
   refine sp z52 rfl rfl (ex_move ((u52.past 1 rfl).trans ((p53 1 rfl).trans ((p51 1 rfl).trans ((p50 1 rfl).trans s0_1))))) ?_; intro a54 u54 z54
   have H31_56 := (ArenaAt.keep (ArenaAt.keep H31 t43) t47)
   refine sc z54 rfl rfl (exl_call Try.func68 rfl rfl (cons_ops ((u54.past 34 rfl).trans ((u52.past 34 rfl).trans (u48.here _ rfl))) (cons_ops rfl (cons_ops ((u54.past 35 rfl).trans (u52.here _ rfl)) (cons_ops (u54.here _ rfl) nil_ops))))) (c_Join H31_56 R31.wf R31.room hm2 3 h f (by omega) (ok_pre R31.pre hh) (ok_pre R31.pre hf)) ?_
   rintro e55 w55 ⟨Fp55, A55, r55, c55, he55, H55, m55, R55, back55, more55⟩; refine ⟨_, he55, ?_⟩; intro a55 u55 z55
   have x57 := (Touch.trans x44 (Ext.touch t47))
   have i58 := Mut.inF m55 x57 i34
   refine sp z55 rfl rfl (ex_move (u55.here _ rfl)) ?_; intro a59 u59 z59
   refine sp z59 rfl rfl (ex_extract (u59.here _ rfl) rfl) ?_; intro a60 u60 z60
   refine sp z60 rfl rfl (ex_extract ((u60.past 33 rfl).trans (u59.here _ rfl)) rfl) ?_; intro a61 u61 z61
   refine sp z61 rfl rfl (ex_assign ((u61.past 38 rfl).trans (u60.here _ rfl))) ?_; intro a62 u62 z62
   refine sp z62 rfl rfl (ex_assign ((u62.past 39 rfl).trans (u61.here _ rfl))) ?_; intro a63 u63 z63
   have d64 := (u63.defs.trans (u62.defs.trans (u61.defs.trans (u60.defs.trans (u59.defs.trans (u55.defs.trans (u54.defs.trans (u52.defs.trans (u48.defs.trans d47)))))))))
   refine seq_end ?_
   refine then_norm ?_
   have s65_12 : a63.eval (.tmp 12) = .int .i64 c55 := (u63.here _ rfl)
   refine rgs mixed 56 [.eq (.int .i64 c55), .eq (.bool (decide (c55 = 0)))] [[(12, none)], [(40, some 0)]] d64 z63 (by kernel_rfl) ⟨Ov rfl rfl fun _ _ T ⟨k12, _⟩ => ex_move (k12.trans s65_12), Ov rfl rfl fun _ _ T ⟨k40, _⟩ => ex_eql k40 rfl, trivial⟩ ?_
   intro a66 w66 d66 z66 t66 e66 q66
   have x67 := (Touch.trans (Touch.mut x57 m55 i34) (Ext.touch t66))
   by_cases c68 : c55 = 0
   ·have y68 := decide_eq_true c68
    have s69_41 : a66.eval (.tmp 41) = .bool (decide (c55 = 0)) := e66.2.1
    refine wp_cond_true (s69_41.trans (by rw [y68])) ?_
    have gd1 := R55.ok.elim (fun hQ => hQ.2) (fun hQ => absurd hQ (by have := c68; omega))
    refine seq_begin ?_
    have p71 := fr4 u52.past u54.past u55.past u59.past
    have p72 := fr4 u60.past u61.past u62.past u63.past
    have p73 := fr4 p51 p53 p71 p72
    refine sp z66 rfl rfl (ex_move ((q66 0 rfl).trans ((p73 0 rfl).trans ((p50 0 rfl).trans s0_0)))) ?_; intro a70 u70 z70
    refine sp z70 rfl rfl (ex_move ((u70.past 11 rfl).trans ((q66 11 rfl).trans ((p72 11 rfl).trans ((p71 11 rfl).trans ((p53 11 rfl).trans (u38.here _ rfl))))))) ?_; intro a74 u74 z74
    refine sp z74 rfl rfl (ex_move ((u74.past 13 rfl).trans ((u70.past 13 rfl).trans ((q66 13 rfl).trans ((u63.past 13 rfl).trans (u62.here _ rfl)))))) ?_; intro a75 u75 z75
    have H55_77 := (ArenaAt.keep H55 t66)
    refine sc z75 rfl rfl (exl_call Try.func68 rfl rfl (cons_ops ((u75.past 43 rfl).trans ((u74.past 43 rfl).trans (u70.here _ rfl))) (cons_ops rfl (cons_ops ((u75.past 44 rfl).trans (u74.here _ rfl)) (cons_ops (u75.here _ rfl) nil_ops))))) (c_Join H55_77 R55.wf R55.room hm2 1 r31 r55 (by omega) (ok_pre R55.pre gd0.1) gd1.1) ?_
    rintro e76 w76 ⟨Fp76, A76, r76, c76, he76, H76, m76, R76, back76, more76⟩; refine ⟨_, he76, ?_⟩; intro a76 u76 z76
    have i78 := Mut.inF m76 x67 i58
    refine sp z76 rfl rfl (ex_move (u76.here _ rfl)) ?_; intro a79 u79 z79
    refine sp z79 rfl rfl (ex_extract (u79.here _ rfl) rfl) ?_; intro a80 u80 z80
    refine sp z80 rfl rfl (ex_extract ((u80.past 42 rfl).trans (u79.here _ rfl)) rfl) ?_; intro a81 u81 z81
    refine sp z81 rfl rfl (ex_assign ((u81.past 47 rfl).trans (u80.here _ rfl))) ?_; intro a82 u82 z82
    refine sp z82 rfl rfl (ex_assign ((u82.past 48 rfl).trans (u81.here _ rfl))) ?_; intro a83 u83 z83
    have d84 := (u83.defs.trans (u82.defs.trans (u81.defs.trans (u80.defs.trans (u79.defs.trans (u76.defs.trans (u75.defs.trans (u74.defs.trans (u70.defs.trans d66)))))))))
    refine seq_end ?_
    repeat (with_reducible refine block_norm ?_)
    refine hK41 _ _ ?_
    refine wp_seq_k fun K85 hK85 => ?_
    have s86_12 : a83.eval (.tmp 12) = .int .i64 c76 := (u83.here _ rfl)
    refine rgs mixed 56 [.eq (.int .i64 c76), .eq (.bool (decide (c76 ≠ 0)))] [[(12, none)], [(49, some 0)]] d84 z83 (by kernel_rfl) ⟨Ov rfl rfl fun _ _ T ⟨k12, _⟩ => ex_move (k12.trans s86_12), Ov rfl rfl fun _ _ T ⟨k49, _⟩ => ex_neq k49 rfl, trivial⟩ ?_
    intro a87 w87 d87 z87 t87 e87 q87
    have x88 := (Touch.trans (Touch.mut x67 m76 i58) (Ext.touch t87))
    by_cases c89 : c76 ≠ 0
    ·have y89 := decide_eq_true c89
     have s90_50 : a87.eval (.tmp 50) = .bool (decide (c76 ≠ 0)) := e87.2.1
     refine wp_cond_true (s90_50.trans (by rw [y89])) ?_
     have lenm := R76.wf.len; have roomm := R76.room
     refine wp_seq ?_
     refine seq_begin ?_
     have p92 := fr4 q66 u70.past u74.past u75.past
     have p93 := fr4 u76.past u79.past u80.past u81.past
     refine sp z87 rfl rfl (ex_move ((q87 0 rfl).trans ((u83.past 0 rfl).trans ((u82.past 0 rfl).trans ((p93 0 rfl).trans ((p92 0 rfl).trans ((p73 0 rfl).trans ((p50 0 rfl).trans s0_0)))))))) ?_; intro a91 u91 z91
     have p95 := fr4 u82.past u83.past q87 u91.past
     refine sp z91 rfl rfl (ex_move ((p95 10 rfl).trans ((p93 10 rfl).trans ((p92 10 rfl).trans ((p73 10 rfl).trans ((p49 10 rfl).trans (u25.here _ rfl))))))) ?_; intro a94 u94 z94
     have H76_97 := (ArenaAt.keep H76 t87)
     refine sc z94 rfl rfl (exl_call Try.func101 rfl rfl (cons_ops ((u94.past 51 rfl).trans (u91.here _ rfl)) (cons_ops (u94.here _ rfl) nil_ops))) (c_cut H76_97 (A.length : Int) (by omega) (by omega) R76.wf.nodup) ?_
     rintro e96 w96 ⟨he96, H96, m96⟩; refine ⟨_, he96, ?_⟩; intro a96 u96 z96
     have i98 := Mut.inF m96 x88 i78
     have d99 := (u96.defs.trans (u94.defs.trans (u91.defs.trans d87)))
     refine seq_end ?_
     refine then_norm ?_
     have s100_12 := ((u96.past 12 rfl).trans ((u94.past 12 rfl).trans ((u91.past 12 rfl).trans ((q87 12 rfl).trans s86_12))))
     refine rgs mixed 56 [.eq (.int .i64 c76), .eq (.int .i64 0), .eq (.int .i64 c76)] [[(12, none)], [], [(54, some 0)]] d99 z96 (by kernel_rfl) ⟨Ov rfl rfl fun _ _ T ⟨k12, _⟩ => ex_move (k12.trans s100_12), Ov rfl rfl fun _ _ T _ => ex_assign rfl, Ov rfl rfl fun _ _ T ⟨k54, _⟩ => ex_assign k54, trivial⟩ ?_
     intro a101 w101 d101 z101 t101 e101 q101
     refine wp_ret ?_
     have s102_8 : a101.eval (.tmp 8) = .int .i64 0 := e101.2.1
     have s103_9 : a101.eval (.tmp 9) = .int .i64 c76 := e101.2.2.1
     repeat (first | (with_reducible refine then_ret ?_) | (with_reducible refine block_ret ?_))
     refine rett (rs := [.tmp 8, .tmp 9]) (vs := [.int .i64 0, .int .i64 c76]) Try.results71 ⟨s102_8, ⟨s103_9, trivial⟩⟩ (by simp) d101 ?_
     have et := take_pre ((R31.pre.trans R55.pre).trans R76.pre) hl2 (n := (A.length : Int)) rfl
     have H96_104 := (ArenaAt.keep H96 t101)
     have HH := H96_104
     rw [et] at HH
     have x105 := (Touch.trans (Touch.mut x88 m96 i98) (Ext.touch t101))
     have hc := R76.ok.elim (fun hQ => absurd hQ.1 c89) (fun hQ => hQ)
     exact ⟨_, _, _, _, rfl, HH, ⟨x105, i98⟩, ⟨hW, List.prefix_refl _, hm, .inr hc⟩, fun _ => ⟨rfl, rfl⟩, fun V hV => ((((((more31.gw hV).zero (fun hn => hn (c45))).trans ((more55.gw ((more31.gw hV).zero (fun hn => hn (c45))).lv).zero (fun hn => hn (c68)))).trans (more76.gw (((more31.gw hV).zero (fun hn => hn (c45))).trans ((more55.gw ((more31.gw hV).zero (fun hn => hn (c45))).lv).zero (fun hn => hn (c68)))).lv)).back hV ((R31.pre.trans R55.pre).trans R76.pre)).mono (by have := Nat.pow_pos (n := V.length) (show 0 < 2 by omega); omega))⟩
    ·have y89 := decide_eq_false c89
     have s106_50 : a87.eval (.tmp 50) = .bool (decide (c76 ≠ 0)) := e87.2.1
     refine wp_cond_false (s106_50.trans (by rw [y89])) ?_
     refine wp_skip ?_
     repeat (with_reducible refine block_norm ?_)
     refine hK85 _ _ ?_
     have s107_11 : a82.eval (.tmp 11) = .int .i64 r76 := (u82.here _ rfl)
     have s108_11 := ((q87 11 rfl).trans ((u83.past 11 rfl).trans s107_11))
     refine rgs mixed 56 [.eq (.int .i64 r76), .eq (.int .i64 r76), .eq (.int .i64 0)] [[(11, none)], [(55, some 0)], []] d87 z87 (by kernel_rfl) ⟨Ov rfl rfl fun _ _ T ⟨k11, _⟩ => ex_move (k11.trans s108_11), Ov rfl rfl fun _ _ T ⟨k55, _⟩ => ex_assign k55, Ov rfl rfl fun _ _ T _ => ex_assign rfl, trivial⟩ ?_
     intro a109 w109 d109 z109 t109 e109 q109
     refine wp_ret ?_
     have s110_8 : a109.eval (.tmp 8) = .int .i64 r76 := e109.2.1
     have s111_9 : a109.eval (.tmp 9) = .int .i64 0 := e109.2.2.1
     repeat (first | (with_reducible refine then_ret ?_) | (with_reducible refine block_ret ?_))
     refine rett (rs := [.tmp 8, .tmp 9]) (vs := [.int .i64 r76, .int .i64 0]) Try.results71 ⟨s110_8, ⟨s111_9, trivial⟩⟩ (by simp) d109 ?_
     have gd2 := R76.ok.elim (fun hQ => hQ.2) (fun hQ => absurd hQ (by have := c89; omega))
     have H76_112 := (ArenaAt.keep (ArenaAt.keep H76 t87) t109)
     have x113 := (Touch.trans x88 (Ext.touch t109))
     have hden : ∀ v, den A76 v r76 = if den A v f then den A v g else den A v h := fun v => by
      rw [gd2.2.1 v, den_pre R55.pre R31.wf R55.wf v _ gd0.1, gd0.2.1 v, gd1.2.1 v, den_pre R31.pre hW R31.wf v _ hh, den_pre R31.pre hW R31.wf v _ hf]; cases den A v f <;> simp [opK]
     exact ⟨_, _, _, _, rfl, H76_112, ⟨x113, i78⟩, ⟨R76.wf, ((R31.pre.trans R55.pre).trans R76.pre), R76.room, .inl ⟨rfl, gd2.1, hden⟩⟩, fun hQ => absurd rfl hQ, fun V hV => (((((more31.gw hV).zero (fun hn => hn (c45))).trans ((more55.gw ((more31.gw hV).zero (fun hn => hn (c45))).lv).zero (fun hn => hn (c68)))).trans ((more76.gw (((more31.gw hV).zero (fun hn => hn (c45))).trans ((more55.gw ((more31.gw hV).zero (fun hn => hn (c45))).lv).zero (fun hn => hn (c68)))).lv).zero c89)).mono (by have := Nat.pow_pos (n := V.length) (show 0 < 2 by omega); omega))⟩
   ·have y68 := decide_eq_false c68
    have s114_41 : a66.eval (.tmp 41) = .bool (decide (c55 = 0)) := e66.2.1
    refine wp_cond_false (s114_41.trans (by rw [y68])) ?_
    refine wp_skip ?_
    repeat (with_reducible refine block_norm ?_)
    refine hK41 _ _ ?_
    refine wp_seq_k fun K115 hK115 => ?_
    have s116_12 := ((q66 12 rfl).trans s65_12)
    refine rgs mixed 56 [.eq (.int .i64 c55), .eq (.bool (decide (c55 ≠ 0)))] [[(12, none)], [(49, some 0)]] d66 z66 (by kernel_rfl) ⟨Ov rfl rfl fun _ _ T ⟨k12, _⟩ => ex_move (k12.trans s116_12), Ov rfl rfl fun _ _ T ⟨k49, _⟩ => ex_neq k49 rfl, trivial⟩ ?_
    intro a117 w117 d117 z117 t117 e117 q117
    have y118 : decide (c55 ≠ 0) = true := decide_eq_true c68
    have s119_50 : a117.eval (.tmp 50) = .bool (decide (c55 ≠ 0)) := e117.2.1
    refine wp_cond_true (s119_50.trans (by rw [y118])) ?_
    have lenm := R55.wf.len; have roomm := R55.room
    refine wp_seq ?_
    refine seq_begin ?_
    have p121 := fr4 u52.past u54.past u55.past u59.past
    have p122 := fr4 u60.past u61.past u62.past u63.past
    have p123 := fr4 p51 p53 p121 p122
    refine sp z117 rfl rfl (ex_move ((q117 0 rfl).trans ((q66 0 rfl).trans ((p123 0 rfl).trans ((p50 0 rfl).trans s0_0))))) ?_; intro a120 u120 z120
    refine sp z120 rfl rfl (ex_move ((u120.past 10 rfl).trans ((q117 10 rfl).trans ((q66 10 rfl).trans ((p123 10 rfl).trans ((p49 10 rfl).trans (u25.here _ rfl))))))) ?_; intro a124 u124 z124
    have H55_126 := (ArenaAt.keep (ArenaAt.keep H55 t66) t117)
    refine sc z124 rfl rfl (exl_call Try.func101 rfl rfl (cons_ops ((u124.past 51 rfl).trans (u120.here _ rfl)) (cons_ops (u124.here _ rfl) nil_ops))) (c_cut H55_126 (A.length : Int) (by omega) (by omega) R55.wf.nodup) ?_
    rintro e125 w125 ⟨he125, H125, m125⟩; refine ⟨_, he125, ?_⟩; intro a125 u125 z125
    have x127 := (Touch.trans x67 (Ext.touch t117))
    have i128 := Mut.inF m125 x127 i58
    have d129 := (u125.defs.trans (u124.defs.trans (u120.defs.trans d117)))
    refine seq_end ?_
    refine then_norm ?_
    have s130_12 := ((u125.past 12 rfl).trans ((u124.past 12 rfl).trans ((u120.past 12 rfl).trans ((q117 12 rfl).trans s116_12))))
    refine rgs mixed 56 [.eq (.int .i64 c55), .eq (.int .i64 0), .eq (.int .i64 c55)] [[(12, none)], [], [(54, some 0)]] d129 z125 (by kernel_rfl) ⟨Ov rfl rfl fun _ _ T ⟨k12, _⟩ => ex_move (k12.trans s130_12), Ov rfl rfl fun _ _ T _ => ex_assign rfl, Ov rfl rfl fun _ _ T ⟨k54, _⟩ => ex_assign k54, trivial⟩ ?_
    intro a131 w131 d131 z131 t131 e131 q131
    refine wp_ret ?_
    have s132_8 : a131.eval (.tmp 8) = .int .i64 0 := e131.2.1
    have s133_9 : a131.eval (.tmp 9) = .int .i64 c55 := e131.2.2.1
    repeat (first | (with_reducible refine then_ret ?_) | (with_reducible refine block_ret ?_))
    refine rett (rs := [.tmp 8, .tmp 9]) (vs := [.int .i64 0, .int .i64 c55]) Try.results71 ⟨s132_8, ⟨s133_9, trivial⟩⟩ (by simp) d131 ?_
    have et := take_pre (R31.pre.trans R55.pre) hl2 (n := (A.length : Int)) rfl
    have H125_134 := (ArenaAt.keep H125 t131)
    have HH := H125_134
    rw [et] at HH
    have x135 := (Touch.trans (Touch.mut x127 m125 i128) (Ext.touch t131))
    have hc := R55.ok.elim (fun hQ => absurd hQ.1 c68) (fun hQ => hQ)
    exact ⟨_, _, _, _, rfl, HH, ⟨x135, i128⟩, ⟨hW, List.prefix_refl _, hm, .inr hc⟩, fun _ => ⟨rfl, rfl⟩, fun V hV => (((((more31.gw hV).zero (fun hn => hn (c45))).trans (more55.gw ((more31.gw hV).zero (fun hn => hn (c45))).lv)).back hV (R31.pre.trans R55.pre)).mono (by have := Nat.pow_pos (n := V.length) (show 0 < 2 by omega); omega))⟩
  ·have y45 := decide_eq_false c45
   have s136_32 : a43.eval (.tmp 32) = .bool (decide (c31 = 0)) := e43.2.1
   refine wp_cond_false (s136_32.trans (by rw [y45])) ?_
   refine wp_skip ?_
   repeat (with_reducible refine block_norm ?_)
   refine hK41 _ _ ?_
   refine wp_seq_k fun K137 hK137 => ?_
   have s138_12 := ((q43 12 rfl).trans s42_12)
   refine rgs mixed 56 [.eq (.int .i64 c31), .eq (.bool (decide (c31 ≠ 0)))] [[(12, none)], [(49, some 0)]] d43 z43 (by kernel_rfl) ⟨Ov rfl rfl fun _ _ T ⟨k12, _⟩ => ex_move (k12.trans s138_12), Ov rfl rfl fun _ _ T ⟨k49, _⟩ => ex_neq k49 rfl, trivial⟩ ?_
   intro a139 w139 d139 z139 t139 e139 q139
   have y140 : decide (c31 ≠ 0) = true := decide_eq_true c45
   have s141_50 : a139.eval (.tmp 50) = .bool (decide (c31 ≠ 0)) := e139.2.1
   refine wp_cond_true (s141_50.trans (by rw [y140])) ?_
   have lenm := R31.wf.len; have roomm := R31.room
   refine wp_seq ?_
   refine seq_begin ?_
   have p143 := fr4 u27.past u29.past u30.past u31.past
   have p144 := fr4 p10 p22 p28 p143
   have p145 := fr4 u35.past u36.past u37.past u38.past
   refine sp z139 rfl rfl (ex_move ((q139 0 rfl).trans ((q43 0 rfl).trans ((u39.past 0 rfl).trans ((p145 0 rfl).trans ((p144 0 rfl).trans s0_0)))))) ?_; intro a142 u142 z142
   have p147 := fr4 u39.past q43 q139 u142.past
   refine sp z142 rfl rfl (ex_move ((p147 10 rfl).trans ((p145 10 rfl).trans ((p143 10 rfl).trans (u25.here _ rfl))))) ?_; intro a146 u146 z146
   have H31_149 := (ArenaAt.keep (ArenaAt.keep H31 t43) t139)
   refine sc z146 rfl rfl (exl_call Try.func101 rfl rfl (cons_ops ((u146.past 51 rfl).trans (u142.here _ rfl)) (cons_ops (u146.here _ rfl) nil_ops))) (c_cut H31_149 (A.length : Int) (by omega) (by omega) R31.wf.nodup) ?_
   rintro e148 w148 ⟨he148, H148, m148⟩; refine ⟨_, he148, ?_⟩; intro a148 u148 z148
   have x150 := (Touch.trans x44 (Ext.touch t139))
   have i151 := Mut.inF m148 x150 i34
   have d152 := (u148.defs.trans (u146.defs.trans (u142.defs.trans d139)))
   refine seq_end ?_
   refine then_norm ?_
   have s153_12 := ((u148.past 12 rfl).trans ((u146.past 12 rfl).trans ((u142.past 12 rfl).trans ((q139 12 rfl).trans s138_12))))
   refine rgs mixed 56 [.eq (.int .i64 c31), .eq (.int .i64 0), .eq (.int .i64 c31)] [[(12, none)], [], [(54, some 0)]] d152 z148 (by kernel_rfl) ⟨Ov rfl rfl fun _ _ T ⟨k12, _⟩ => ex_move (k12.trans s153_12), Ov rfl rfl fun _ _ T _ => ex_assign rfl, Ov rfl rfl fun _ _ T ⟨k54, _⟩ => ex_assign k54, trivial⟩ ?_
   intro a154 w154 d154 z154 t154 e154 q154
   refine wp_ret ?_
   have s155_8 : a154.eval (.tmp 8) = .int .i64 0 := e154.2.1
   have s156_9 : a154.eval (.tmp 9) = .int .i64 c31 := e154.2.2.1
   repeat (first | (with_reducible refine then_ret ?_) | (with_reducible refine block_ret ?_))
   refine rett (rs := [.tmp 8, .tmp 9]) (vs := [.int .i64 0, .int .i64 c31]) Try.results71 ⟨s155_8, ⟨s156_9, trivial⟩⟩ (by simp) d154 ?_
   have et := take_pre R31.pre hl2 (n := (A.length : Int)) rfl
   have H148_157 := (ArenaAt.keep H148 t154)
   have HH := H148_157
   rw [et] at HH
   have x158 := (Touch.trans (Touch.mut x150 m148 i151) (Ext.touch t154))
   have hc := R31.ok.elim (fun hQ => absurd hQ.1 c45) (fun hQ => hQ)
   exact ⟨_, _, _, _, rfl, HH, ⟨x158, i151⟩, ⟨hW, List.prefix_refl _, hm, .inr hc⟩, fun _ => ⟨rfl, rfl⟩, fun V hV => (((more31.gw hV).back hV R31.pre).mono (by have := Nat.pow_pos (n := V.length) (show 0 < 2 by omega); omega))⟩

set_option maxRecDepth 100000 in
set_option maxHeartbeats 4000000 in
theorem c_Var {w : World} {b : Nat} {Fp : Nat → Prop} {A : List N3} {most : Int} (H : ArenaAt w b Fp A most) (hW : Wf A) (hm : (A.length : Int) ≤ most) (hm2 : most ≤ 262144) (i : Int) (hi : 0 ≤ i ∧ i < 104) : Calls Try.prog 66 #[.pointer (some ⟨b, 0, none⟩), .int .i64 i] w fun e w' => ∃ Fp' A' r c, e = .returned (.tuple #[.int .i64 r, .int .i64 c]) ∧ ArenaAt w' b Fp' A' most ∧ Mut Fp Fp' w w' ∧ Res A A' most c (Okn A' r ∧ ∀ v, den A' v r = v i) ∧ (c ≠ 0 → A' = A ∧ r = 0) ∧ ∀ V : List Int, i ∈ V → LvIn V A → Gw V A A' most c 2 := by
 have hl2 := hW.len
 refine enter 13 Try.ntmps66 Try.func66 rfl (Nat.le_of_ble_eq_true rfl) fun a0 d0 z0 hargs => ?_
 have s0_0 : a0.eval (.tmp 0) = .pointer (some ⟨b, 0, none⟩) := hargs 0 _ rfl
 have s0_1 : a0.eval (.tmp 1) = .int .i64 i := hargs 1 _ rfl
 have x0 := Touch.refl Fp w
 refine rgs mixed 13 [.eq (.int .i64 0), .eq (.int .i64 0)] [[], []] d0 z0 (by kernel_rfl) ⟨Ov rfl rfl fun _ _ T _ => ex_assign rfl, Ov rfl rfl fun _ _ T _ => ex_assign rfl, trivial⟩ ?_
 intro a1 w1 d1 z1 t1 e1 q1
 refine wp_seq ?_
 refine seq_begin ?_
 refine sp z1 rfl rfl (ex_move ((q1 0 rfl).trans s0_0)) ?_; intro a2 u2 z2
 refine sp z2 rfl rfl (ex_move ((u2.past 1 rfl).trans ((q1 1 rfl).trans s0_1))) ?_; intro a3 u3 z3
 refine sp z3 rfl rfl (exl_build (cons_parts (u3.here _ rfl) (cons_parts rfl nil_parts)) (bd_133_0Ii64_1B i true _)) ?_; intro a4 u4 z4
 refine snew (mk := fun bQ => .slice (some ⟨bQ, 0, none⟩) 1 1) z4 rfl rfl (exl_buildSlice (cons_parts (u4.here _ rfl) nil_parts) (bs_128_1_0AIi64BE i true _)) ?_; intro b5 w5 a5 t5 g5 hb5 u5 z5
 have H_7 := (ArenaAt.keep H t1)
 have o6 : ¬ Fp b5 := fun hQ => by have := ArenaAt.lt H_7 hQ; omega
 have x9 := (Touch.trans x0 (Ext.touch t1))
 have yb5_8 := Nat.le_trans (Touch.size x9) g5
 have H_11 := (ArenaAt.keep H_7 t5)
 refine sc z5 rfl rfl (exl_call Try.func56 rfl rfl (cons_ops ((u5.past 6 rfl).trans ((u4.past 6 rfl).trans ((u3.past 6 rfl).trans (u2.here _ rfl)))) (cons_ops (u5.here _ rfl) nil_ops))) (c_Cube (L := [(i, true)]) rfl H_11 hW hm hm2 (own_of (k := 2) (n := 1) (cs := flat lvs_ [(i, true)]) hb5 rfl (by decide)) (cubic_one (by omega)) (by simp) (fun jQ hQ => by cases hQ; exact o6)) ?_
 rintro e10 w10 ⟨Fp10, A10, r10, c10, he10, H10, m10, R10, back10, more10⟩; refine ⟨_, he10, ?_⟩; intro a10 u10 z10
 have o12 := Mut.out m10 (lt_of hb5) o6
 have x13 := (Touch.trans x9 (Ext.touch t5))
 have i14 := Mut.inF m10 x13 (fun jQ hQ => Or.inl hQ)
 refine sp z10 rfl rfl (ex_extract (u10.here _ rfl) rfl) ?_; intro a15 u15 z15
 refine sp z15 rfl rfl (ex_extract ((u15.past 10 rfl).trans (u10.here _ rfl)) rfl) ?_; intro a16 u16 z16
 refine sp z16 rfl rfl (ex_assign ((u16.past 11 rfl).trans (u15.here _ rfl))) ?_; intro a17 u17 z17
 refine sp z17 rfl rfl (ex_assign ((u17.past 12 rfl).trans (u16.here _ rfl))) ?_; intro a18 u18 z18
 have d19 := (u18.defs.trans (u17.defs.trans (u16.defs.trans (u15.defs.trans (u10.defs.trans (u5.defs.trans (u4.defs.trans (u3.defs.trans (u2.defs.trans d1)))))))))
 refine seq_end ?_
 refine then_norm ?_
 refine wp_ret ?_
 have s20_4 : a17.eval (.tmp 4) = .int .i64 r10 := (u17.here _ rfl)
 have s21_4 := ((u18.past 4 rfl).trans s20_4)
 have s22_5 : a18.eval (.tmp 5) = .int .i64 c10 := (u18.here _ rfl)
 repeat (first | (with_reducible refine then_ret ?_) | (with_reducible refine block_ret ?_))
 refine rett (rs := [.tmp 4, .tmp 5]) (vs := [.int .i64 r10, .int .i64 c10]) Try.results66 ⟨s21_4, ⟨s22_5, trivial⟩⟩ (by simp) d19 ?_
 have x23 := (Touch.mut x13 m10 (fun jQ hQ => Or.inl hQ))
 exact ⟨_, _, _, _, rfl, H10, ⟨x23, i14⟩, R10.imp fun hQ => ⟨hQ.1, fun v => by rw [hQ.2 v]; simp [cubeD]⟩, back10, fun V hi hV => cube_gw more10.2 hi hV hW.len⟩

end Go.Proofs.Yticodddigaiipaa
