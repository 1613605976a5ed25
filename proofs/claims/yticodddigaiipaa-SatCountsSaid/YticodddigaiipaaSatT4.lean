/-
 Contracts of functions of the given program, each proved by a walk through its code: what a call answers, and what it leaves of memory; conditions: those ahead of each theorem's colon.
-/
import Derived.Test.YticodddigaiipaaSatT3
set_option linter.unusedVariables false
set_option linter.unusedSimpArgs false
namespace Go.Proofs.Yticodddigaiipaa
open Go.RowKit
theorem bd_178_0Ii64_1Ii64 (x0 : Int) (x1 : Int) (w : World) : (Instr.build 178 #[(0, .int .i64 x0), (1, .int .i64 x1)]).run Try.prog w = .ok (.agg #[.int .i64 x0, .int .i64 x1]) w := by kernel_rfl
theorem zv_178 (w : World) : (zeroValue 178).run Try.prog w = .ok (.agg #[.int .i64 0, .int .i64 0]) w := by kernel_rfl

theorem pairK : KeyOk Try.prog 178 pk := pairKey Try.underlying178 Try.underlying3 (Try.isAgg3) (by kernel_rfl) (fun em x w => by cases em <;> kernel_rfl)
theorem short_ok {A : List N3} {k f g : Int} (h : Wf A) (hk : 0 ≤ k ∧ k ≤ 3) (hf : Okn A f) (hg : Okn A g) (hs : (short k f g).2 = true) : JoinGood A A k f g (short k f g).1 := by
 have h0 : Okn A 0 := ⟨Int.le_refl _, by have := h.len; omega⟩
 have h1 : Okn A 1 := ⟨by omega, by have := h.len; omega⟩
 have l0 : lev A 0 = 104 := by rw [lev, h.lo]; rfl
 have l1 : lev A 1 = 104 := by rw [lev, h.hi]; rfl
 have lf := (lev_le h hf).2.1
 have lg := (lev_le h hg).2.1
 have g0 : (∀ v, opK k (den A v f) (den A v g) = false) → JoinGood A A k f g 0 := fun e => ⟨h0, fun v => (e v).symm ▸ rfl, by rw [l0]; omega⟩
 have g1 : (∀ v, opK k (den A v f) (den A v g) = true) → JoinGood A A k f g 1 := fun e => ⟨h1, fun v => (e v).symm ▸ rfl, by rw [l1]; omega⟩
 have gf : (∀ v, opK k (den A v f) (den A v g) = den A v f) → JoinGood A A k f g f := fun e => ⟨hf, fun v => (e v).symm, Int.min_le_left _ _⟩
 have gg : (∀ v, opK k (den A v f) (den A v g) = den A v g) → JoinGood A A k f g g := fun e => ⟨hg, fun v => (e v).symm, Int.min_le_right _ _⟩
 clear h0 h1 l0 l1 lf lg hf hg h
 generalize hq : short k f g = q at hs ⊢
 unfold short at hq
 simp only [Bool.or_eq_true, decide_eq_true_eq] at hq
 repeat' split at hq
 all_goals subst hq
 all_goals (try (exact absurd hs (by decide)))
 all_goals (have hd : k = 0 ∨ k = 1 ∨ k = 2 ∨ k = 3 := by omega)
 all_goals first
  | exact g0 fun v => by (rcases hd with rfl | rfl | rfl | rfl) <;> (try omega) <;> (try (rcases ‹(_ ∨ _) ∨ _› with (rfl | rfl) | rfl)) <;> (try (rcases ‹_ ∨ _› with rfl | rfl)) <;> (try subst_vars) <;> simp [opK, den_zero, den_one]
  | exact g1 fun v => by (rcases hd with rfl | rfl | rfl | rfl) <;> (try omega) <;> (try (rcases ‹_ ∨ _› with rfl | rfl)) <;> (try subst_vars) <;> simp [opK, den_zero, den_one]
  | exact gg fun v => by (rcases hd with rfl | rfl | rfl | rfl) <;> (try omega) <;> (try (rcases ‹_ ∨ _› with rfl | rfl)) <;> (try subst_vars) <;> simp [opK, den_zero, den_one]
  | exact gf fun v => by (rcases hd with rfl | rfl | rfl | rfl) <;> (try omega) <;> (try (rcases ‹_ ∨ _› with rfl | rfl)) <;> (try subst_vars) <;> simp [opK, den_zero, den_one]
theorem short_no {A : List N3} {k f g : Int} (h : Wf A) (hf : Okn A f) (hg : Okn A g) (hs : (short k f g).2 = false) : min (lev A f) (lev A g) < 104 := by
 have lf := lev_le h hf
 have lg := lev_le h hg
 have key : ¬ (f < 2 ∧ g < 2) := by
  rintro ⟨a, b⟩
  have ha : f = 0 ∨ f = 1 := by unfold Okn at hf; omega
  have hb : g = 0 ∨ g = 1 := by unfold Okn at hg; omega
  unfold short at hs
  rcases ha with rfl | rfl <;> rcases hb with rfl | rfl <;> simp at hs <;> (repeat' split at hs) <;> simp at hs
 omega

/-- the arena's blocks and the map's -/
def Fj (ms : Nat) (Fp : Nat → Prop) : Nat → Prop := fun k => k = ms ∨ Fp k
structure JoinPost (w w' : World) (b ms : Nat) (Fp Fp' : Nat → Prop) (A A' : List N3) (most kind : Int) (S' : Int × Int → Option Int) (n' : Nat) (f g r c : Int) : Prop where
 at_ : ArenaAt w' b Fp' A' most
 seen : MapF w' ms pk iv S' n'
 ok : SeenOk A' kind S'
 out : ¬ Fp' ms
 mt : Mut (Fj ms Fp) (Fj ms Fp') w w'
 gr : ∀ l, l = min (lev A f) (lev A g) → Grows A A' most c l
 res : Res A A' most c (JoinGood A A' kind f g r)

set_option maxRecDepth 100000 in
set_option maxHeartbeats 4000000 in
theorem c_join_ : ∀ (N : Nat) {w : World} {b ms : Nat} {Fp : Nat → Prop} {A : List N3} {most : Int} {S : Int × Int → Option Int} {cnt : Nat} (H : ArenaAt w b Fp A most) (HS : MapF w ms pk iv S cnt) (hout : ¬ Fp ms) (kind f g : Int) (hk : 0 ≤ kind ∧ kind ≤ 3) (hW : Wf A) (hm : (A.length : Int) ≤ most) (hm2 : most ≤ 262144) (hS : SeenOk A kind S) (hf : Okn A f) (hg : Okn A g) (hN : 104 - min (lev A f) (lev A g) ≤ N), Calls Try.prog 106 #[.pointer (some ⟨b, 0, none⟩), .int .i64 kind, .int .i64 f, .int .i64 g, .map (some ms)] w fun e w' => ∃ Fp' A' r c S' n', e = .returned (.tuple #[.int .i64 r, .int .i64 c]) ∧ JoinPost w w' b ms Fp Fp' A A' most kind S' n' f g r c := by
 intro N
 induction N using Nat.strongRecOn with
 | _ N ihs =>
 intro w b ms Fp A most S cnt H HS hout kind f g hk hW hm hm2 hS hf hg hN
 have ih : ∀ {w : World} {b ms : Nat} {Fp : Nat → Prop} {A : List N3} {most : Int} {S : Int × Int → Option Int} {cnt : Nat} (H : ArenaAt w b Fp A most) (HS : MapF w ms pk iv S cnt) (hout : ¬ Fp ms) (kind f g : Int) (hk : 0 ≤ kind ∧ kind ≤ 3) (hW : Wf A) (hm : (A.length : Int) ≤ most) (hm2 : most ≤ 262144) (hS : SeenOk A kind S) (hf : Okn A f) (hg : Okn A g) (hN' : 104 - min (lev A f) (lev A g) < N), Calls Try.prog 106 #[.pointer (some ⟨b, 0, none⟩), .int .i64 kind, .int .i64 f, .int .i64 g, .map (some ms)] w fun e w' => ∃ Fp' A' r c S' n', e = .returned (.tuple #[.int .i64 r, .int .i64 c]) ∧ JoinPost w w' b ms Fp Fp' A A' most kind S' n' f g r c := @fun w b ms Fp A most S cnt H HS hout kind f g hk hW hm hm2 hS hf hg h => ihs (104 - min (lev A f) (lev A g)).toNat (by have := (lev_le hW hf).2.1; have := (lev_le hW hg).2.1; omega) H HS hout kind f g hk hW hm hm2 hS hf hg (by omega)
 obtain ⟨lv, hlv⟩ : ∃ lv : Int, (if (at_ A n0 g).1 < (at_ A n0 f).1 then (at_ A n0 g).1 else (at_ A n0 f).1) = lv := ⟨_, rfl⟩
 have hlv' : lv = min (lev A f) (lev A g) := by subst hlv; simp only [lev, nd]; split <;> omega
 have hf' := hf; have hg' := hg; unfold Okn at hf' hg'
 refine enter 116 Try.ntmps106 Try.func106 rfl (Nat.le_of_ble_eq_true rfl) fun a0 d0 z0 hargs => ?_
 have s0_0 : a0.eval (.tmp 0) = .pointer (some ⟨b, 0, none⟩) := hargs 0 _ rfl
 have s0_1 : a0.eval (.tmp 1) = .int .i64 kind := hargs 1 _ rfl
 have s0_2 : a0.eval (.tmp 2) = .int .i64 f := hargs 2 _ rfl
 have s0_3 : a0.eval (.tmp 3) = .int .i64 g := hargs 3 _ rfl
 have s0_4 : a0.eval (.tmp 4) = .map (some ms) := hargs 4 _ rfl
 have x0 := Touch.refl (Fj ms Fp) w
 refine rgs mixed 116 [.eq (.int .i64 0), .eq (.int .i64 0)] [[], []] d0 z0 (by kernel_rfl) ⟨Ov rfl rfl fun _ _ T _ => ex_assign rfl, Ov rfl rfl fun _ _ T _ => ex_assign rfl, trivial⟩ ?_
 intro a1 w1 d1 z1 t1 e1 q1
 refine wp_seq_k fun K2 hK2 => ?_
 refine wp_seq ?_
 refine seq_begin ?_
 refine sp z1 rfl rfl (ex_move ((q1 1 rfl).trans s0_1)) ?_; intro a3 u3 z3
 refine sp z3 rfl rfl (ex_move ((u3.past 2 rfl).trans ((q1 2 rfl).trans s0_2))) ?_; intro a4 u4 z4
 refine sp z4 rfl rfl (ex_move ((u4.past 3 rfl).trans ((u3.past 3 rfl).trans ((q1 3 rfl).trans s0_3)))) ?_; intro a5 u5 z5
 refine scx z5 rfl rfl (exl_call Try.func131 rfl rfl (cons_ops ((u5.past 27 rfl).trans ((u4.past 27 rfl).trans (u3.here _ rfl))) (cons_ops ((u5.past 28 rfl).trans (u4.here _ rfl)) (cons_ops (u5.here _ rfl) nil_ops)))) (c_short kind f g  _) ?_; intro w6 a6 t6 u6 z6
 refine sp z6 rfl rfl (ex_move (u6.here _ rfl)) ?_; intro a7 u7 z7
 refine sp z7 rfl rfl (ex_extract (u7.here _ rfl) rfl) ?_; intro a8 u8 z8
 refine sp z8 rfl rfl (ex_extract ((u8.past 26 rfl).trans (u7.here _ rfl)) rfl) ?_; intro a9 u9 z9
 refine sp z9 rfl rfl (ex_assign ((u9.past 31 rfl).trans (u8.here _ rfl))) ?_; intro a10 u10 z10
 refine sp z10 rfl rfl (ex_assign ((u10.past 32 rfl).trans (u9.here _ rfl))) ?_; intro a11 u11 z11
 have d12 := (u11.defs.trans (u10.defs.trans (u9.defs.trans (u8.defs.trans (u7.defs.trans (u6.defs.trans (u5.defs.trans (u4.defs.trans (u3.defs.trans d1)))))))))
 refine seq_end ?_
 refine then_norm ?_
 have s13_13 : a11.eval (.tmp 13) = .bool ((short kind f g).2) := (u11.here _ rfl)
 refine rgs mixed 116 [.eq (.bool ((short kind f g).2))] [[(13, none)]] d12 z11 (by kernel_rfl) ⟨Ov rfl rfl fun _ _ T ⟨k13, _⟩ => ex_move (k13.trans s13_13), trivial⟩ ?_
 intro a14 w14 d14 z14 t14 e14 q14
 have H_15 := (ArenaAt.keep (ArenaAt.keep (ArenaAt.keep H t1) t6) t14)
 have HS_16 := (MapF.keep (MapF.keep (MapF.keep HS t1) t6) t14)
 have x17 := (Touch.trans (Touch.trans (Touch.trans x0 (Ext.touch t1)) (Ext.touch t6)) (Ext.touch t14))
 rcases Bool.eq_false_or_eq_true ((short kind f g).2) with y18 | y18
 ·have c18 := y18
  have s19_33 : a14.eval (.tmp 33) = .bool ((short kind f g).2) := e14.1
  refine wp_cond_true (s19_33.trans (by rw [y18])) ?_
  have s20_12 : a10.eval (.tmp 12) = .int .i64 ((short kind f g).1) := (u10.here _ rfl)
  have s21_12 := ((q14 12 rfl).trans ((u11.past 12 rfl).trans s20_12))
  refine rgs mixed 116 [.eq (.int .i64 ((short kind f g).1)), .eq (.int .i64 ((short kind f g).1)), .eq (.int .i64 0)] [[(12, none)], [(34, some 0)], []] d14 z14 (by kernel_rfl) ⟨Ov rfl rfl fun _ _ T ⟨k12, _⟩ => ex_move (k12.trans s21_12), Ov rfl rfl fun _ _ T ⟨k34, _⟩ => ex_assign k34, Ov rfl rfl fun _ _ T _ => ex_assign rfl, trivial⟩ ?_
  intro a22 w22 d22 z22 t22 e22 q22
  refine wp_ret ?_
  have s23_10 : a22.eval (.tmp 10) = .int .i64 ((short kind f g).1) := e22.2.1
  have s24_11 : a22.eval (.tmp 11) = .int .i64 0 := e22.2.2.1
  repeat (first | (with_reducible refine then_ret ?_) | (with_reducible refine block_ret ?_))
  refine rett (rs := [.tmp 10, .tmp 11]) (vs := [.int .i64 ((short kind f g).1), .int .i64 0]) Try.results106 ⟨s23_10, ⟨s24_11, trivial⟩⟩ (by simp) d22 ?_
  have x25 := (Touch.trans x17 (Ext.touch t22))
  have H_26 := (ArenaAt.keep H_15 t22)
  have HS_27 := (MapF.keep HS_16 t22)
  exact ⟨Fp, A, _, _, S, cnt, rfl, H_26, HS_27, hS, hout, ⟨x25, fun _ h => .inl h⟩, fun _ _ => grows_same _ _ _, hW, List.prefix_refl _, hm, .inl ⟨rfl, short_ok hW hk hf hg y18⟩⟩
 ·have c18 := y18
  have s28_33 : a14.eval (.tmp 33) = .bool ((short kind f g).2) := e14.1
  refine wp_cond_false (s28_33.trans (by rw [y18])) ?_
  refine wp_skip ?_
  repeat (with_reducible refine block_norm ?_)
  refine hK2 _ _ ?_
  refine wp_seq ?_
  refine seq_begin ?_
  have p30 := fr4 q1 u3.past u4.past u5.past
  have p31 := fr4 u6.past u7.past u8.past u9.past
  refine sp z14 rfl rfl (ex_move ((q14 2 rfl).trans ((u11.past 2 rfl).trans ((u10.past 2 rfl).trans ((p31 2 rfl).trans ((p30 2 rfl).trans s0_2)))))) ?_; intro a29 u29 z29
  have p33 := fr4 u10.past u11.past q14 u29.past
  refine sp z29 rfl rfl (ex_move ((p33 3 rfl).trans ((p31 3 rfl).trans ((p30 3 rfl).trans s0_3)))) ?_; intro a32 u32 z32
  refine sp z32 rfl rfl (exl_build (cons_parts ((u32.past 35 rfl).trans (u29.here _ rfl)) (cons_parts (u32.here _ rfl) nil_parts)) (bd_178_0Ii64_1Ii64 f g _)) ?_; intro a34 u34 z34
  refine salloc z34 rfl (zv_178 _) ?_; intro b35 w35 a35 t35 g35 hb35 u35 z35
  have n36_ms_b35 := ne_lt (MapF.lt HS_16) g35
  have o37 : ¬ Fp b35 := fun hQ => by have := ArenaAt.lt H_15 hQ; omega
  have yb35_38 := Nat.le_trans (Touch.size x17) g35
  refine sstore (cs := [.int .i64 0, .int .i64 0]) (vs := [.int .i64 f, .int .i64 g]) (cs' := [.int .i64 f, .int .i64 g]) z35 rfl (u35.here _ rfl) ((u35.past 37 rfl).trans (u34.here _ rfl)) hb35 (Try.sizeOf178 _) rfl rfl (by decide) (Nat.le_of_ble_eq_true rfl) rfl rfl ?_; intro w39 a39 t39 u39 z39
  have d40 := (u39.defs.trans (u35.defs.trans (u34.defs.trans (u32.defs.trans (u29.defs.trans d14)))))
  refine seq_end ?_
  refine then_norm ?_
  refine wp_seq_k fun K41 hK41 => ?_
  have x49 := (Touch.turn (Touch.trans x17 (Ext.touch t35)) t39 (Or.inr yb35_38))
  rcases hq48 : S (f, g) with _ | q48
  ·skip
   have p51 := fr4 u32.past u34.past u35.past u39.past
   have p52 := fr4 p30 p31 p33 p51
   have s50_4 := ((p52 4 rfl).trans s0_4)
   have s53_14 : a35.eval (.tmp 14) = .pointer (some ⟨b35, 0, none⟩) := (u35.here _ rfl)
   have s54_14 := ((u39.past 14 rfl).trans s53_14)
   have HS_55 := (MapF.same (MapF.keep HS_16 t35) (t39.touch.block _ (MapF.lt (MapF.keep HS_16 t35)) n36_ms_b35))
   refine rgs mixed 116 [.eq (.map (some ms)), .eq (.agg #[.int .i64 f, .int .i64 g]), .eq (.tuple #[.int .i64 0, .bool false]), .eq (.tuple #[.int .i64 0, .bool false]), .eq (.int .i64 0), .eq (.bool false), .eq (.int .i64 0), .eq (.bool false)] [[(4, none)], [(14, none)], [(39, some 0), (40, some 1)], [(41, some 2)], [(38, some 3)], [(38, some 3)], [(42, some 4)], [(43, some 5)]] d40 z39 (by kernel_rfl) ⟨Ov rfl rfl fun _ _ T ⟨k4, _⟩ => ex_move (k4.trans s50_4),
    Ov rfl rfl fun _ _ T ⟨k14, _⟩ => ex_loadAgg (cs := [.int .i64 f, .int .i64 g]) (k14.trans s54_14) (Try.isAgg178 _) (Try.sizeOf178 _) (cells_of (off := 0) (Ext.keep T.ext t39.here) rfl),
    Ov rfl rfl fun _ _ T ⟨k39, k40, _⟩ => (ex_look_ok (xk := (f, g)) (MapF.keep HS_55 T.ext) pairK Try.underlying195 (zv_3 _) k39 k40).trans (by rw [hq48]; rfl),
    Ov rfl rfl fun _ _ T ⟨k41, _⟩ => ex_move k41,
    Ov rfl rfl fun _ _ T ⟨k38, _⟩ => ex_extract k38 rfl,
    Ov rfl rfl fun _ _ T ⟨k38, _⟩ => ex_extract k38 rfl,
    Ov rfl rfl fun _ _ T ⟨k42, _⟩ => ex_assign k42,
    Ov rfl rfl fun _ _ T ⟨k43, _⟩ => ex_assign k43,
    trivial⟩ ?_
   intro a56 w56 d56 z56 t56 e56 q56
   have s57_16 : a56.eval (.tmp 16) = .bool false := e56.2.2.2.2.2.2.2.1
   refine rgs mixed 116 [.eq (.bool false)] [[(16, none)]] d56 z56 (by kernel_rfl) ⟨Ov rfl rfl fun _ _ T ⟨k16, _⟩ => ex_move (k16.trans s57_16), trivial⟩ ?_
   intro a58 w58 d58 z58 t58 e58 q58
   have s59_44 : a58.eval (.tmp 44) = .bool false := e58.1
   refine wp_cond_false s59_44 ?_
   refine wp_skip ?_
   repeat (with_reducible refine block_norm ?_)
   refine hK41 _ _ ?_
   have H_60 := (ArenaAt.keep (ArenaAt.keep (ArenaAt.turn (ArenaAt.keep H_15 t35) t39 o37) t56) t58)
   obtain ⟨bm61, row61, cap61, hb61, ho61, ⟨nQ61, hm61⟩, eF61⟩ := (H_60).ex
   have pf := part_ok hW hf (k := lv) (by omega) (by have := short_no hW hf hg y18; omega)
   have pg := part_ok hW hg (k := lv) (by omega) (by have := short_no hW hf hg y18; omega)
   have h104 : lv < 104 := by have := short_no hW hf hg y18; omega
   have s62_0 := ((q58 0 rfl).trans ((q56 0 rfl).trans ((p52 0 rfl).trans s0_0)))
   have s63_2 := ((q58 2 rfl).trans ((q56 2 rfl).trans ((p52 2 rfl).trans s0_2)))
   have s64_3 := ((q58 3 rfl).trans ((q56 3 rfl).trans ((p52 3 rfl).trans s0_3)))
   refine rgs mixed 116 [.eq (.pointer (some ⟨b, 0, none⟩)), .eq (.pointer (some ⟨b, 0, none⟩)), .eq (.pointer (some ⟨b, 0, none⟩)), .eq (.slice (some ⟨row61, 0, none⟩) A.length cap61), .eq (.int .i64 f), .eq (.pointer (some ⟨row61, Int.toNat f * 3, none⟩)), .eq (.pointer (some ⟨row61, Int.toNat f * 3, none⟩)), .eq (.int .i64 ((at_ A n0 f).1)), .eq (.pointer (some ⟨b, 0, none⟩)), .eq (.pointer (some ⟨b, 0, none⟩)), .eq (.pointer (some ⟨b, 0, none⟩)), .eq (.slice (some ⟨row61, 0, none⟩) A.length cap61), .eq (.int .i64 g), .eq (.pointer (some ⟨row61, Int.toNat g * 3, none⟩)), .eq (.pointer (some ⟨row61, Int.toNat g * 3, none⟩)), .eq (.int .i64 ((at_ A n0 g).1)), .eq (.int .i64 lv), .eq (.int .i64 lv)] [[(0, none)], [(46, some 0)], [(47, some 1)], [(48, some 2)], [(2, none)], [(49, some 3), (50, some 4)], [(51, some 5)], [(52, some 6)], [(0, none)], [(54, some 8)], [(55, some 9)], [(56, some 10)], [(3, none)], [(57, some 11), (58, some 12)], [(59, some 13)], [(60, some 14)], [(53, some 7), (61, some 15)], [(62, some 16)]] d58 z58 (by kernel_rfl) ⟨Ov rfl rfl fun _ _ T ⟨k0, _⟩ => ex_move (k0.trans s62_0),
    Ov rfl rfl fun _ _ T ⟨k46, _⟩ => ex_nilCheck k46,
    Ov rfl rfl fun _ _ T ⟨k47, _⟩ => ex_fieldAddr k47 (fa_123_0 _ _ _),
    Ov rfl rfl fun _ _ T ⟨k48, _⟩ => ex_load k48 (Try.isAgg120 _) (cell_of (Ext.keep T.ext hb61) rfl),
    Ov rfl rfl fun _ _ T ⟨k2, _⟩ => ex_move (k2.trans s63_2),
    Ov rfl rfl fun _ _ T ⟨k49, k50, _⟩ => ex_ixa Try.underlying120 (Try.sizeOf119 _) k49 rfl k50 (by omega) (by omega),
    Ov rfl rfl fun _ _ T ⟨k51, _⟩ => ex_fieldAddr k51 (fa_119_0 _ _ _),
    Ov rfl rfl fun _ _ T ⟨k52, _⟩ => ex_load k52 (Try.isAgg3 _) (own_at (own_keep ho61 T.ext) rfl nvs3 (at_some' (d := n0) (by rfl) (by omega) (by omega)) 0 rfl),
    Ov rfl rfl fun _ _ T ⟨k0, _⟩ => ex_move (k0.trans s62_0),
    Ov rfl rfl fun _ _ T ⟨k54, _⟩ => ex_nilCheck k54,
    Ov rfl rfl fun _ _ T ⟨k55, _⟩ => ex_fieldAddr k55 (fa_123_0 _ _ _),
    Ov rfl rfl fun _ _ T ⟨k56, _⟩ => ex_load k56 (Try.isAgg120 _) (cell_of (Ext.keep T.ext hb61) rfl),
    Ov rfl rfl fun _ _ T ⟨k3, _⟩ => ex_move (k3.trans s64_3),
    Ov rfl rfl fun _ _ T ⟨k57, k58, _⟩ => ex_ixa Try.underlying120 (Try.sizeOf119 _) k57 rfl k58 (by omega) (by omega),
    Ov rfl rfl fun _ _ T ⟨k59, _⟩ => ex_fieldAddr k59 (fa_119_0 _ _ _),
    Ov rfl rfl fun _ _ T ⟨k60, _⟩ => ex_load k60 (Try.isAgg3 _) (own_at (own_keep ho61 T.ext) rfl nvs3 (at_some' (d := n0) (by rfl) (by omega) (by omega)) 0 rfl),
    Ov rfl rfl fun _ _ T ⟨k53, k61, _⟩ => (ex_min (cons_ops k53 (cons_ops k61 nil_ops))).trans (by rw [hlv]),
    Ov rfl rfl fun _ _ T ⟨k62, _⟩ => ex_assign k62,
    trivial⟩ ?_
   intro a65 w65 d65 z65 t65 e65 q65
   refine wp_seq ?_
   refine seq_begin ?_
   refine sp z65 rfl rfl (ex_move ((q65 0 rfl).trans s62_0)) ?_; intro a66 u66 z66
   refine sp z66 rfl rfl (ex_move ((u66.past 2 rfl).trans ((q65 2 rfl).trans s63_2))) ?_; intro a67 u67 z67
   refine sp z67 rfl rfl (ex_move ((u67.past 17 rfl).trans ((u66.past 17 rfl).trans e65.2.2.2.2.2.2.2.2.2.2.2.2.2.2.2.2.2.1))) ?_; intro a68 u68 z68
   have H_70 := (ArenaAt.keep H_60 t65)
   refine scx z68 rfl rfl (exl_call Try.func132 rfl rfl (cons_ops ((u68.past 64 rfl).trans ((u67.past 64 rfl).trans (u66.here _ rfl))) (cons_ops ((u68.past 65 rfl).trans (u67.here _ rfl)) (cons_ops (u68.here _ rfl) nil_ops)))) (c_parts H_70 _ _ (by omega)) ?_; intro w69 a69 t69 u69 z69
   refine sp z69 rfl rfl (ex_move (u69.here _ rfl)) ?_; intro a71 u71 z71
   refine sp z71 rfl rfl (ex_extract (u71.here _ rfl) rfl) ?_; intro a72 u72 z72
   refine sp z72 rfl rfl (ex_extract ((u72.past 63 rfl).trans (u71.here _ rfl)) rfl) ?_; intro a73 u73 z73
   refine sp z73 rfl rfl (ex_assign ((u73.past 68 rfl).trans (u72.here _ rfl))) ?_; intro a74 u74 z74
   refine sp z74 rfl rfl (ex_assign ((u74.past 69 rfl).trans (u73.here _ rfl))) ?_; intro a75 u75 z75
   have d76 := (u75.defs.trans (u74.defs.trans (u73.defs.trans (u72.defs.trans (u71.defs.trans (u69.defs.trans (u68.defs.trans (u67.defs.trans (u66.defs.trans d65)))))))))
   refine seq_end ?_
   refine then_norm ?_
   refine wp_seq ?_
   refine seq_begin ?_
   have p78 := fr4 u67.past u68.past u69.past u71.past
   have p79 := fr4 u72.past u73.past u74.past u75.past
   refine sp z75 rfl rfl (ex_move ((p79 0 rfl).trans ((p78 0 rfl).trans ((u66.past 0 rfl).trans ((q65 0 rfl).trans s62_0))))) ?_; intro a77 u77 z77
   refine sp z77 rfl rfl (ex_move ((u77.past 3 rfl).trans ((p79 3 rfl).trans ((p78 3 rfl).trans ((u66.past 3 rfl).trans ((q65 3 rfl).trans s64_3)))))) ?_; intro a80 u80 z80
   refine sp z80 rfl rfl (ex_move ((u80.past 17 rfl).trans ((u77.past 17 rfl).trans ((p79 17 rfl).trans ((p78 17 rfl).trans ((u66.past 17 rfl).trans e65.2.2.2.2.2.2.2.2.2.2.2.2.2.2.2.2.2.1)))))) ?_; intro a81 u81 z81
   have H_83 := (ArenaAt.keep H_70 t69)
   refine scx z81 rfl rfl (exl_call Try.func132 rfl rfl (cons_ops ((u81.past 71 rfl).trans ((u80.past 71 rfl).trans (u77.here _ rfl))) (cons_ops ((u81.past 72 rfl).trans (u80.here _ rfl)) (cons_ops (u81.here _ rfl) nil_ops)))) (c_parts H_83 _ _ (by omega)) ?_; intro w82 a82 t82 u82 z82
   refine sp z82 rfl rfl (ex_move (u82.here _ rfl)) ?_; intro a84 u84 z84
   refine sp z84 rfl rfl (ex_extract (u84.here _ rfl) rfl) ?_; intro a85 u85 z85
   refine sp z85 rfl rfl (ex_extract ((u85.past 70 rfl).trans (u84.here _ rfl)) rfl) ?_; intro a86 u86 z86
   refine sp z86 rfl rfl (ex_assign ((u86.past 75 rfl).trans (u85.here _ rfl))) ?_; intro a87 u87 z87
   refine sp z87 rfl rfl (ex_assign ((u87.past 76 rfl).trans (u86.here _ rfl))) ?_; intro a88 u88 z88
   have d89 := (u88.defs.trans (u87.defs.trans (u86.defs.trans (u85.defs.trans (u84.defs.trans (u82.defs.trans (u81.defs.trans (u80.defs.trans (u77.defs.trans d76)))))))))
   refine seq_end ?_
   refine then_norm ?_
   refine wp_seq ?_
   refine seq_begin ?_
   have p91 := fr4 u77.past u80.past u81.past u82.past
   have p92 := fr4 u84.past u85.past u86.past u87.past
   refine sp z88 rfl rfl (ex_move ((u88.past 0 rfl).trans ((p92 0 rfl).trans ((p91 0 rfl).trans ((p79 0 rfl).trans ((p78 0 rfl).trans ((u66.past 0 rfl).trans ((q65 0 rfl).trans s62_0)))))))) ?_; intro a90 u90 z90
   have p94 := fr4 q56 q58 q65 u66.past
   have p95 := fr4 p94 p78 p79 p91
   refine sp z90 rfl rfl (ex_move ((u90.past 1 rfl).trans ((u88.past 1 rfl).trans ((p92 1 rfl).trans ((p95 1 rfl).trans ((p52 1 rfl).trans s0_1)))))) ?_; intro a93 u93 z93
   refine sp z93 rfl rfl (ex_move ((u93.past 18 rfl).trans ((u90.past 18 rfl).trans ((u88.past 18 rfl).trans ((p92 18 rfl).trans ((p91 18 rfl).trans ((u75.past 18 rfl).trans (u74.here _ rfl)))))))) ?_; intro a96 u96 z96
   have p98 := fr4 u88.past u90.past u93.past u96.past
   refine sp z96 rfl rfl (ex_move ((p98 20 rfl).trans (u87.here _ rfl))) ?_; intro a97 u97 z97
   refine sp z97 rfl rfl (ex_move ((u97.past 4 rfl).trans ((p98 4 rfl).trans ((p92 4 rfl).trans ((p95 4 rfl).trans s50_4))))) ?_; intro a99 u99 z99
   have H_101 := (ArenaAt.keep H_83 t82)
   have HS_102 := (MapF.keep (MapF.keep (MapF.keep (MapF.keep (MapF.keep HS_55 t56) t58) t65) t69) t82)
   refine sc z99 rfl rfl (exl_call Try.func106 rfl rfl (cons_ops ((u99.past 78 rfl).trans ((u97.past 78 rfl).trans ((u96.past 78 rfl).trans ((u93.past 78 rfl).trans (u90.here _ rfl))))) (cons_ops ((u99.past 79 rfl).trans ((u97.past 79 rfl).trans ((u96.past 79 rfl).trans (u93.here _ rfl)))) (cons_ops ((u99.past 80 rfl).trans ((u97.past 80 rfl).trans (u96.here _ rfl))) (cons_ops ((u99.past 81 rfl).trans (u97.here _ rfl)) (cons_ops (u99.here _ rfl) nil_ops)))))) (ih H_101 HS_102 hout kind (partF A f lv).1 (partF A g lv).1 hk hW hm hm2 hS pf.1 pg.1 (by have := pf.2.2.1; have := pg.2.2.1; omega)) ?_
   rintro e100 w100 ⟨Fp100, A100, r100, c100, S100, n100, he100, J100⟩; refine ⟨_, he100, ?_⟩; intro a100 u100 z100
   have o103 : ¬ (Fj ms Fp) b35 := fun hQ => hQ.elim (Ne.symm n36_ms_b35) o37
   have i104 := fun jQ (hQ : (Fj ms Fp) jQ) => (hQ.elim (fun eQ => by rw [eQ]; exact (Or.inl (Or.inl rfl))) ((fun jQ hQ => Or.inl (Or.inr hQ)) jQ) : (Fj ms Fp) jQ ∨ w.heap.size ≤ jQ)
   have t39.here_105 := (Ext.keep t82 (Ext.keep t69 (Ext.keep t65 (Ext.keep t58 (Ext.keep t56 t39.here)))))
   have o106 := Mut.out J100.mt (lt_of t39.here_105) o103
   have x107 := (Touch.trans (Touch.trans (Touch.trans (Touch.trans (Touch.trans x49 (Ext.touch t56)) (Ext.touch t58)) (Ext.touch t65)) (Ext.touch t69)) (Ext.touch t82))
   have i108 := Mut.inF J100.mt x107 i104
   refine sp z100 rfl rfl (ex_move (u100.here _ rfl)) ?_; intro a109 u109 z109
   refine sp z109 rfl rfl (ex_extract (u109.here _ rfl) rfl) ?_; intro a110 u110 z110
   refine sp z110 rfl rfl (ex_extract ((u110.past 77 rfl).trans (u109.here _ rfl)) rfl) ?_; intro a111 u111 z111
   refine sp z111 rfl rfl (ex_assign ((u111.past 84 rfl).trans (u110.here _ rfl))) ?_; intro a112 u112 z112
   refine sp z112 rfl rfl (ex_assign ((u112.past 85 rfl).trans (u111.here _ rfl))) ?_; intro a113 u113 z113
   have d114 := (u113.defs.trans (u112.defs.trans (u111.defs.trans (u110.defs.trans (u109.defs.trans (u100.defs.trans (u99.defs.trans (u97.defs.trans (u96.defs.trans (u93.defs.trans (u90.defs.trans d89)))))))))))
   refine seq_end ?_
   refine then_norm ?_
   refine wp_seq_k fun K115 hK115 => ?_
   have s116_23 : a113.eval (.tmp 23) = .int .i64 c100 := (u113.here _ rfl)
   refine rgs mixed 116 [.eq (.int .i64 c100), .eq (.bool (decide (c100 ≠ 0)))] [[(23, none)], [(86, some 0)]] d114 z113 (by kernel_rfl) ⟨Ov rfl rfl fun _ _ T ⟨k23, _⟩ => ex_move (k23.trans s116_23), Ov rfl rfl fun _ _ T ⟨k86, _⟩ => ex_neq k86 rfl, trivial⟩ ?_
   intro a117 w117 d117 z117 t117 e117 q117
   have x118 := (Touch.trans (Touch.mut x107 J100.mt i104) (Ext.touch t117))
   by_cases c119 : c100 ≠ 0
   ·have y119 := decide_eq_true c119
    have s120_87 : a117.eval (.tmp 87) = .bool (decide (c100 ≠ 0)) := e117.2.1
    refine wp_cond_true (s120_87.trans (by rw [y119])) ?_
    have s121_23 := ((q117 23 rfl).trans s116_23)
    refine rgs mixed 116 [.eq (.int .i64 c100), .eq (.int .i64 0), .eq (.int .i64 c100)] [[(23, none)], [], [(88, some 0)]] d117 z117 (by kernel_rfl) ⟨Ov rfl rfl fun _ _ T ⟨k23, _⟩ => ex_move (k23.trans s121_23), Ov rfl rfl fun _ _ T _ => ex_assign rfl, Ov rfl rfl fun _ _ T ⟨k88, _⟩ => ex_assign k88, trivial⟩ ?_
    intro a122 w122 d122 z122 t122 e122 q122
    refine wp_ret ?_
    have s123_10 : a122.eval (.tmp 10) = .int .i64 0 := e122.2.1
    have s124_11 : a122.eval (.tmp 11) = .int .i64 c100 := e122.2.2.1
    repeat (first | (with_reducible refine then_ret ?_) | (with_reducible refine block_ret ?_))
    refine rett (rs := [.tmp 10, .tmp 11]) (vs := [.int .i64 0, .int .i64 c100]) Try.results106 ⟨s123_10, ⟨s124_11, trivial⟩⟩ (by simp) d122 ?_
    have x125 := (Touch.trans x118 (Ext.touch t122))
    have J100.at__126 := (ArenaAt.keep (ArenaAt.keep J100.at_ t117) t122)
    have J100.seen_127 := (MapF.keep (MapF.keep J100.seen t117) t122)
    have hlvm : ∃ x ∈ A.drop 2, x.1 = lv := by
     by_cases hq : lev A f ≤ lev A g
     ·have := lev_mem hW hf (by omega); rw [show lv = lev A f by omega]; exact this
     ·have := lev_mem hW hg (by omega); rw [show lv = lev A g by omega]; exact this
    have gr : ∀ l, l = min (lev A f) (lev A g) → Grows A _ most _ l := fun l hl => by rw [hl, ← hlv']; exact ((J100.gr _ rfl).mono (by have := pf.2.2.1; have := pg.2.2.1; omega))
    exact ⟨_, _, _, _, _, _, rfl, J100.at__126, J100.seen_127, J100.ok, J100.out, ⟨x125, fun jQ hQ => hQ.elim (fun eQ => .inl (.inl eQ)) ((fun jQ hQ => i108 jQ (Or.inr hQ)) jQ)⟩, gr, J100.res.wf, J100.res.pre, J100.res.room, J100.res.ok.elim (fun hQ => absurd hQ.1 c119) .inr⟩
   ·have y119 := decide_eq_false c119
    have s128_87 : a117.eval (.tmp 87) = .bool (decide (c100 ≠ 0)) := e117.2.1
    refine wp_cond_false (s128_87.trans (by rw [y119])) ?_
    refine wp_skip ?_
    repeat (with_reducible refine block_norm ?_)
    refine hK115 _ _ ?_
    refine wp_seq ?_
    refine seq_begin ?_
    have p130 := fr4 u97.past u99.past u100.past u109.past
    have p131 := fr4 u110.past u111.past u112.past u113.past
    have p132 := fr4 p92 p98 p130 p131
    refine sp z117 rfl rfl (ex_move ((q117 0 rfl).trans ((p132 0 rfl).trans ((p91 0 rfl).trans ((p79 0 rfl).trans ((p78 0 rfl).trans ((u66.past 0 rfl).trans ((q65 0 rfl).trans s62_0)))))))) ?_; intro a129 u129 z129
    refine sp z129 rfl rfl (ex_move ((u129.past 1 rfl).trans ((q117 1 rfl).trans ((p132 1 rfl).trans ((p95 1 rfl).trans ((p52 1 rfl).trans s0_1)))))) ?_; intro a133 u133 z133
    refine sp z133 rfl rfl (ex_move ((u133.past 19 rfl).trans ((u129.past 19 rfl).trans ((q117 19 rfl).trans ((p132 19 rfl).trans ((p91 19 rfl).trans (u75.here _ rfl))))))) ?_; intro a134 u134 z134
    have p136 := fr4 q117 u129.past u133.past u134.past
    refine sp z134 rfl rfl (ex_move ((p136 21 rfl).trans ((p131 21 rfl).trans ((p130 21 rfl).trans ((u96.past 21 rfl).trans ((u93.past 21 rfl).trans ((u90.past 21 rfl).trans (u88.here _ rfl)))))))) ?_; intro a135 u135 z135
    refine sp z135 rfl rfl (ex_move ((u135.past 4 rfl).trans ((p136 4 rfl).trans ((p132 4 rfl).trans ((p95 4 rfl).trans s50_4))))) ?_; intro a137 u137 z137
    have J100.at__139 := (ArenaAt.keep J100.at_ t117)
    have J100.seen_140 := (MapF.keep J100.seen t117)
    refine sc z137 rfl rfl (exl_call Try.func106 rfl rfl (cons_ops ((u137.past 90 rfl).trans ((u135.past 90 rfl).trans ((u134.past 90 rfl).trans ((u133.past 90 rfl).trans (u129.here _ rfl))))) (cons_ops ((u137.past 91 rfl).trans ((u135.past 91 rfl).trans ((u134.past 91 rfl).trans (u133.here _ rfl)))) (cons_ops ((u137.past 92 rfl).trans ((u135.past 92 rfl).trans (u134.here _ rfl))) (cons_ops ((u137.past 93 rfl).trans (u135.here _ rfl)) (cons_ops (u137.here _ rfl) nil_ops)))))) (ih J100.at__139 J100.seen_140 J100.out kind (partF A f lv).2 (partF A g lv).2 hk J100.res.wf J100.res.room hm2 J100.ok (ok_pre J100.res.pre pf.2.1) (ok_pre J100.res.pre pg.2.1) (by have e1 := nd_pre J100.res.pre pf.2.1; have e2 := nd_pre J100.res.pre pg.2.1; rw [lev, lev, e1, e2]; have := pf.2.2.2.1; have := pg.2.2.2.1; simp only [lev] at *; omega)) ?_
    rintro e138 w138 ⟨Fp138, A138, r138, c138, S138, n138, he138, J138⟩; refine ⟨_, he138, ?_⟩; intro a138 u138 z138
    have o141 : ¬ (Fj ms Fp100) b35 := fun hQ => hQ.elim (Ne.symm n36_ms_b35) (fun hQ => o106 (Or.inr hQ))
    have i142 := fun jQ (hQ : (Fj ms Fp100) jQ) => (hQ.elim (fun eQ => by rw [eQ]; exact (Or.inl (Or.inl rfl))) ((fun jQ hQ => i108 jQ (Or.inr hQ)) jQ) : (Fj ms Fp) jQ ∨ w.heap.size ≤ jQ)
    have t39.here_143 := (Ext.keep t117 (Mut.keep J100.mt t39.here_105 o103))
    have o144 := Mut.out J138.mt (lt_of t39.here_143) o141
    have i145 := Mut.inF J138.mt x118 i142
    refine sp z138 rfl rfl (ex_move (u138.here _ rfl)) ?_; intro a146 u146 z146
    refine sp z146 rfl rfl (ex_extract (u146.here _ rfl) rfl) ?_; intro a147 u147 z147
    refine sp z147 rfl rfl (ex_extract ((u147.past 89 rfl).trans (u146.here _ rfl)) rfl) ?_; intro a148 u148 z148
    refine sp z148 rfl rfl (ex_assign ((u148.past 96 rfl).trans (u147.here _ rfl))) ?_; intro a149 u149 z149
    refine sp z149 rfl rfl (ex_assign ((u149.past 97 rfl).trans (u148.here _ rfl))) ?_; intro a150 u150 z150
    have d151 := (u150.defs.trans (u149.defs.trans (u148.defs.trans (u147.defs.trans (u146.defs.trans (u138.defs.trans (u137.defs.trans (u135.defs.trans (u134.defs.trans (u133.defs.trans (u129.defs.trans d117)))))))))))
    refine seq_end ?_
    refine then_norm ?_
    refine wp_seq_k fun K152 hK152 => ?_
    have s153_23 : a150.eval (.tmp 23) = .int .i64 c138 := (u150.here _ rfl)
    refine rgs mixed 116 [.eq (.int .i64 c138), .eq (.bool (decide (c138 ≠ 0)))] [[(23, none)], [(98, some 0)]] d151 z150 (by kernel_rfl) ⟨Ov rfl rfl fun _ _ T ⟨k23, _⟩ => ex_move (k23.trans s153_23), Ov rfl rfl fun _ _ T ⟨k98, _⟩ => ex_neq k98 rfl, trivial⟩ ?_
    intro a154 w154 d154 z154 t154 e154 q154
    have x155 := (Touch.trans (Touch.mut x118 J138.mt i142) (Ext.touch t154))
    by_cases c156 : c138 ≠ 0
    ·have y156 := decide_eq_true c156
     have s157_99 : a154.eval (.tmp 99) = .bool (decide (c138 ≠ 0)) := e154.2.1
     refine wp_cond_true (s157_99.trans (by rw [y156])) ?_
     have s158_23 := ((q154 23 rfl).trans s153_23)
     refine rgs mixed 116 [.eq (.int .i64 c138), .eq (.int .i64 0), .eq (.int .i64 c138)] [[(23, none)], [], [(100, some 0)]] d154 z154 (by kernel_rfl) ⟨Ov rfl rfl fun _ _ T ⟨k23, _⟩ => ex_move (k23.trans s158_23), Ov rfl rfl fun _ _ T _ => ex_assign rfl, Ov rfl rfl fun _ _ T ⟨k100, _⟩ => ex_assign k100, trivial⟩ ?_
     intro a159 w159 d159 z159 t159 e159 q159
     refine wp_ret ?_
     have s160_10 : a159.eval (.tmp 10) = .int .i64 0 := e159.2.1
     have s161_11 : a159.eval (.tmp 11) = .int .i64 c138 := e159.2.2.1
     repeat (first | (with_reducible refine then_ret ?_) | (with_reducible refine block_ret ?_))
     refine rett (rs := [.tmp 10, .tmp 11]) (vs := [.int .i64 0, .int .i64 c138]) Try.results106 ⟨s160_10, ⟨s161_11, trivial⟩⟩ (by simp) d159 ?_
     have x162 := (Touch.trans x155 (Ext.touch t159))
     have J138.at__163 := (ArenaAt.keep (ArenaAt.keep J138.at_ t154) t159)
     have J138.seen_164 := (MapF.keep (MapF.keep J138.seen t154) t159)
     have hlvm : ∃ x ∈ A.drop 2, x.1 = lv := by
      by_cases hq : lev A f ≤ lev A g
      ·have := lev_mem hW hf (by omega); rw [show lv = lev A f by omega]; exact this
      ·have := lev_mem hW hg (by omega); rw [show lv = lev A g by omega]; exact this
     have gr : ∀ l, l = min (lev A f) (lev A g) → Grows A _ most _ l := fun l hl => by rw [hl, ← hlv']; exact (grows_two hlvm ((J100.gr _ rfl).zero c119) (by have := pf.2.2.1; have := pg.2.2.1; omega) (J138.gr _ rfl) (by have e1 := nd_pre J100.res.pre pf.2.1; have e2 := nd_pre J100.res.pre pg.2.1; rw [lev, lev, e1, e2]; have := pf.2.2.2.1; have := pg.2.2.2.1; simp only [lev] at *; omega))
     exact ⟨_, _, _, _, _, _, rfl, J138.at__163, J138.seen_164, J138.ok, J138.out, ⟨x162, fun jQ hQ => hQ.elim (fun eQ => .inl (.inl eQ)) ((fun jQ hQ => i145 jQ (Or.inr hQ)) jQ)⟩, gr, J138.res.wf, (J100.res.pre.trans J138.res.pre), J138.res.room, J138.res.ok.elim (fun hQ => absurd hQ.1 c156) .inr⟩
    ·have y156 := decide_eq_false c156
     have s165_99 : a154.eval (.tmp 99) = .bool (decide (c138 ≠ 0)) := e154.2.1
     refine wp_cond_false (s165_99.trans (by rw [y156])) ?_
     refine wp_skip ?_
     repeat (with_reducible refine block_norm ?_)
     refine hK152 _ _ ?_
     refine wp_seq ?_
     refine seq_begin ?_
     have p167 := fr4 u135.past u137.past u138.past u146.past
     have p168 := fr4 u147.past u148.past u149.past u150.past
     refine sp z154 rfl rfl (ex_move ((q154 0 rfl).trans ((p168 0 rfl).trans ((p167 0 rfl).trans ((p136 0 rfl).trans ((p132 0 rfl).trans ((p91 0 rfl).trans ((p79 0 rfl).trans ((p78 0 rfl).trans ((u66.past 0 rfl).trans ((q65 0 rfl).trans s62_0))))))))))) ?_; intro a166 u166 z166
     refine sp z166 rfl rfl (ex_move ((u166.past 17 rfl).trans ((q154 17 rfl).trans ((p168 17 rfl).trans ((p167 17 rfl).trans ((p136 17 rfl).trans ((p132 17 rfl).trans ((p91 17 rfl).trans ((p79 17 rfl).trans ((p78 17 rfl).trans ((u66.past 17 rfl).trans e65.2.2.2.2.2.2.2.2.2.2.2.2.2.2.2.2.2.1))))))))))) ?_; intro a169 u169 z169
     refine sp z169 rfl rfl (ex_move ((u169.past 22 rfl).trans ((u166.past 22 rfl).trans ((q154 22 rfl).trans ((p168 22 rfl).trans ((p167 22 rfl).trans ((p136 22 rfl).trans ((u113.past 22 rfl).trans (u112.here _ rfl))))))))) ?_; intro a170 u170 z170
     have p172 := fr4 q154 u166.past u169.past u170.past
     refine sp z170 rfl rfl (ex_move ((p172 24 rfl).trans ((u150.past 24 rfl).trans (u149.here _ rfl)))) ?_; intro a171 u171 z171
     have J138.at__174 := (ArenaAt.keep J138.at_ t154)
     have len2 := J138.res.wf.len
     have roomm := J138.res.room
     have g1 := J100.res.ok.elim (fun hQ => hQ.2) (fun hQ => absurd hQ (by have := c119; omega))
     have g2 := J138.res.ok.elim (fun hQ => hQ.2) (fun hQ => absurd hQ (by have := c156; omega))
     have RM := join_fin (most := most) hW hf hg hlv' h104 J100.res.wf J100.res.pre g1 J138.res.wf J138.res.pre J138.res.room g2
     refine sc z171 rfl rfl (exl_call Try.func102 rfl rfl (cons_ops ((u171.past 102 rfl).trans ((u170.past 102 rfl).trans ((u169.past 102 rfl).trans (u166.here _ rfl)))) (cons_ops ((u171.past 103 rfl).trans ((u170.past 103 rfl).trans (u169.here _ rfl))) (cons_ops ((u171.past 104 rfl).trans (u170.here _ rfl)) (cons_ops (u171.here _ rfl) nil_ops))))) (c_mk J138.at__174 _ _ _ (by omega) (by omega)) ?_
     rintro e173 w173 ⟨Fp173, he173, H173, m173⟩; refine ⟨_, he173, ?_⟩; intro a173 u173 z173
     have t39.here_175 := (Ext.keep t154 (Mut.keep J138.mt t39.here_143 o141))
     have o176 := Mut.out m173 (lt_of t39.here_175) (fun hQ => o144 (Or.inr hQ))
     have J138.seen_177 := (MapF.keep J138.seen t154)
     have o178 := Mut.out m173 (MapF.lt J138.seen_177) J138.out
     have i179 := Mut.inF m173 x155 (fun jQ hQ => i145 jQ (Or.inr hQ))
     refine sp z173 rfl rfl (ex_move (u173.here _ rfl)) ?_; intro a180 u180 z180
     refine sp z180 rfl rfl (ex_extract (u180.here _ rfl) rfl) ?_; intro a181 u181 z181
     refine sp z181 rfl rfl (ex_extract ((u181.past 101 rfl).trans (u180.here _ rfl)) rfl) ?_; intro a182 u182 z182
     refine sp z182 rfl rfl (ex_assign ((u182.past 107 rfl).trans (u181.here _ rfl))) ?_; intro a183 u183 z183
     refine sp z183 rfl rfl (ex_assign ((u183.past 108 rfl).trans (u182.here _ rfl))) ?_; intro a184 u184 z184
     have d185 := (u184.defs.trans (u183.defs.trans (u182.defs.trans (u181.defs.trans (u180.defs.trans (u173.defs.trans (u171.defs.trans (u170.defs.trans (u169.defs.trans (u166.defs.trans d154))))))))))
     refine seq_end ?_
     refine then_norm ?_
     refine wp_seq_k fun K186 hK186 => ?_
     have s187_23 : a184.eval (.tmp 23) = .int .i64 ((mkF A138 most (lv, r100, r138)).2.2) := (u184.here _ rfl)
     refine rgs mixed 116 [.eq (.int .i64 ((mkF A138 most (lv, r100, r138)).2.2)), .eq (.bool (decide (((mkF A138 most (lv, r100, r138)).2.2) ≠ 0)))] [[(23, none)], [(109, some 0)]] d185 z184 (by kernel_rfl) ⟨Ov rfl rfl fun _ _ T ⟨k23, _⟩ => ex_move (k23.trans s187_23), Ov rfl rfl fun _ _ T ⟨k109, _⟩ => ex_neq k109 rfl, trivial⟩ ?_
     intro a188 w188 d188 z188 t188 e188 q188
     have x189 := (Touch.trans (Touch.mut x155 m173 (fun jQ hQ => i145 jQ (Or.inr hQ))) (Ext.touch t188))
     by_cases c190 : ((mkF A138 most (lv, r100, r138)).2.2) ≠ 0
     ·have y190 := decide_eq_true c190
      have s191_110 : a188.eval (.tmp 110) = .bool (decide (((mkF A138 most (lv, r100, r138)).2.2) ≠ 0)) := e188.2.1
      refine wp_cond_true (s191_110.trans (by rw [y190])) ?_
      have s192_23 := ((q188 23 rfl).trans s187_23)
      refine rgs mixed 116 [.eq (.int .i64 ((mkF A138 most (lv, r100, r138)).2.2)), .eq (.int .i64 0), .eq (.int .i64 ((mkF A138 most (lv, r100, r138)).2.2))] [[(23, none)], [], [(111, some 0)]] d188 z188 (by kernel_rfl) ⟨Ov rfl rfl fun _ _ T ⟨k23, _⟩ => ex_move (k23.trans s192_23), Ov rfl rfl fun _ _ T _ => ex_assign rfl, Ov rfl rfl fun _ _ T ⟨k111, _⟩ => ex_assign k111, trivial⟩ ?_
      intro a193 w193 d193 z193 t193 e193 q193
      refine wp_ret ?_
      have s194_10 : a193.eval (.tmp 10) = .int .i64 0 := e193.2.1
      have s195_11 : a193.eval (.tmp 11) = .int .i64 ((mkF A138 most (lv, r100, r138)).2.2) := e193.2.2.1
      repeat (first | (with_reducible refine then_ret ?_) | (with_reducible refine block_ret ?_))
      refine rett (rs := [.tmp 10, .tmp 11]) (vs := [.int .i64 0, .int .i64 ((mkF A138 most (lv, r100, r138)).2.2)]) Try.results106 ⟨s194_10, ⟨s195_11, trivial⟩⟩ (by simp) d193 ?_
      have x196 := (Touch.trans x189 (Ext.touch t193))
      have H173_197 := (ArenaAt.keep (ArenaAt.keep H173 t188) t193)
      have J138.seen_198 := (MapF.keep (MapF.keep (MapF.same J138.seen_177 (Mut.block m173 (MapF.lt J138.seen_177) J138.out)) t188) t193)
      have hlvm : ∃ x ∈ A.drop 2, x.1 = lv := by
       by_cases hq : lev A f ≤ lev A g
       ·have := lev_mem hW hf (by omega); rw [show lv = lev A f by omega]; exact this
       ·have := lev_mem hW hg (by omega); rw [show lv = lev A g by omega]; exact this
      have gr : ∀ l, l = min (lev A f) (lev A g) → Grows A _ most _ l := fun l hl => by rw [hl, ← hlv']; exact grows_mk (r1 := r100) (r2 := r138) hlvm ((J100.gr _ rfl).zero c119) (by have := pf.2.2.1; have := pg.2.2.1; omega) ((J138.gr _ rfl).zero c156) (by have e1 := nd_pre J100.res.pre pf.2.1; have e2 := nd_pre J100.res.pre pg.2.1; rw [lev, lev, e1, e2]; have := pf.2.2.2.1; have := pg.2.2.2.1; simp only [lev] at *; omega) len2
      exact ⟨_, _, _, _, _, _, rfl, H173_197, J138.seen_198, J138.ok.pre J138.res.wf RM.wf RM.pre, o178, ⟨x196, fun jQ hQ => hQ.elim (fun eQ => .inl (.inl eQ)) (i179 jQ)⟩, gr, RM.wf, (J100.res.pre.trans J138.res.pre).trans RM.pre, RM.room, RM.ok.elim (fun hQ => absurd hQ.1 c190) .inr⟩
     ·have y190 := decide_eq_false c190
      have s199_110 : a188.eval (.tmp 110) = .bool (decide (((mkF A138 most (lv, r100, r138)).2.2) ≠ 0)) := e188.2.1
      refine wp_cond_false (s199_110.trans (by rw [y190])) ?_
      refine wp_skip ?_
      repeat (with_reducible refine block_norm ?_)
      refine hK186 _ _ ?_
      refine wp_seq ?_
      refine seq_begin ?_
      have p201 := fr4 p136 p167 p168 p172
      have p202 := fr4 u171.past u173.past u180.past u181.past
      have p203 := fr4 u182.past u183.past u184.past q188
      refine sp z188 rfl rfl (ex_move ((p203 4 rfl).trans ((p202 4 rfl).trans ((p201 4 rfl).trans ((p132 4 rfl).trans ((p95 4 rfl).trans s50_4)))))) ?_; intro a200 u200 z200
      have t39.here_205 := (Ext.keep t188 (Mut.keep m173 t39.here_175 (fun hQ => o144 (Or.inr hQ))))
      refine sp z200 rfl rfl (ex_loadAgg (cs := [.int .i64 f, .int .i64 g]) ((u200.past 14 rfl).trans ((p203 14 rfl).trans ((p202 14 rfl).trans ((p201 14 rfl).trans ((p132 14 rfl).trans ((p95 14 rfl).trans s54_14)))))) (Try.isAgg178 _) (Try.sizeOf178 _) (cells_of (off := 0) t39.here_205 rfl)) ?_; intro a204 u204 z204
      refine sp z204 rfl rfl (ex_move ((u204.past 25 rfl).trans ((u200.past 25 rfl).trans ((q188 25 rfl).trans ((u184.past 25 rfl).trans (u183.here _ rfl)))))) ?_; intro a206 u206 z206
      have J138.seen_208 := (MapF.keep (MapF.same J138.seen_177 (Mut.block m173 (MapF.lt J138.seen_177) J138.out)) t188)
      refine smapu (xk := (f, g)) (yv := (mkF A138 most (lv, r100, r138)).2.1) z206 rfl pairK Try.underlying195 J138.seen_208 ((u206.past 112 rfl).trans ((u204.past 112 rfl).trans (u200.here _ rfl))) ((u206.past 113 rfl).trans (u204.here _ rfl)) (u206.here _ rfl) ?_; intro o207 w207 a207 t207 hm207 u207 z207
      have d209 := (u207.defs.trans (u206.defs.trans (u204.defs.trans (u200.defs.trans d188))))
      refine seq_end ?_
      refine then_norm ?_
      have s210_25 : a183.eval (.tmp 25) = .int .i64 ((mkF A138 most (lv, r100, r138)).2.1) := (u183.here _ rfl)
      have p212 := fr4 u200.past u204.past u206.past u207.past
      have s211_25 := ((p212 25 rfl).trans ((q188 25 rfl).trans ((u184.past 25 rfl).trans s210_25)))
      refine rgs mixed 116 [.eq (.int .i64 ((mkF A138 most (lv, r100, r138)).2.1)), .eq (.int .i64 ((mkF A138 most (lv, r100, r138)).2.1)), .eq (.int .i64 0)] [[(25, none)], [(115, some 0)], []] d209 z207 (by kernel_rfl) ⟨Ov rfl rfl fun _ _ T ⟨k25, _⟩ => ex_move (k25.trans s211_25), Ov rfl rfl fun _ _ T ⟨k115, _⟩ => ex_assign k115, Ov rfl rfl fun _ _ T _ => ex_assign rfl, trivial⟩ ?_
      intro a213 w213 d213 z213 t213 e213 q213
      refine wp_ret ?_
      have s214_10 : a213.eval (.tmp 10) = .int .i64 ((mkF A138 most (lv, r100, r138)).2.1) := e213.2.1
      have s215_11 : a213.eval (.tmp 11) = .int .i64 0 := e213.2.2.1
      repeat (first | (with_reducible refine then_ret ?_) | (with_reducible refine block_ret ?_))
      refine rett (rs := [.tmp 10, .tmp 11]) (vs := [.int .i64 ((mkF A138 most (lv, r100, r138)).2.1), .int .i64 0]) Try.results106 ⟨s214_10, ⟨s215_11, trivial⟩⟩ (by simp) d213 ?_
      have x216 := (Touch.trans (Touch.turn x189 t207 (Or.inl (Or.inl rfl))) (Ext.touch t213))
      have H173_217 := (ArenaAt.keep (ArenaAt.turn (ArenaAt.keep H173 t188) t207 o178) t213)
      have hm207_218 := (MapF.keep hm207 t213)
      have hlvm : ∃ x ∈ A.drop 2, x.1 = lv := by
       by_cases hq : lev A f ≤ lev A g
       ·have := lev_mem hW hf (by omega); rw [show lv = lev A f by omega]; exact this
       ·have := lev_mem hW hg (by omega); rw [show lv = lev A g by omega]; exact this
      have gr : ∀ l, l = min (lev A f) (lev A g) → Grows A _ most _ l := fun l hl => by rw [hl, ← hlv']; exact grows_mk (r1 := r100) (r2 := r138) hlvm ((J100.gr _ rfl).zero c119) (by have := pf.2.2.1; have := pg.2.2.1; omega) ((J138.gr _ rfl).zero c156) (by have e1 := nd_pre J100.res.pre pf.2.1; have e2 := nd_pre J100.res.pre pg.2.1; rw [lev, lev, e1, e2]; have := pf.2.2.2.1; have := pg.2.2.2.1; simp only [lev] at *; omega) len2
      have pre3 := (J100.res.pre.trans J138.res.pre).trans RM.pre
      have good := RM.ok.elim (fun hQ => hQ.2) (fun hQ => absurd hQ (by have := c190; omega))
      exact ⟨_, _, _, _, _, _, rfl, H173_217, hm207_218, (J138.ok.pre J138.res.wf RM.wf RM.pre).put (ok_pre pre3 hf) (ok_pre pre3 hg) (good.base hW RM.wf pre3 hf hg), o178, ⟨x216, fun jQ hQ => hQ.elim (fun eQ => .inl (.inl eQ)) (i179 jQ)⟩, fun l hl => (gr l hl).of0 (Decidable.of_not_not c190), RM.wf, pre3, RM.room, .inl ⟨rfl, good⟩⟩
  ·skip
   have p220 := fr4 u32.past u34.past u35.past u39.past
   have p221 := fr4 p30 p31 p33 p220
   have s219_4 := ((p221 4 rfl).trans s0_4)
   have s222_14 : a35.eval (.tmp 14) = .pointer (some ⟨b35, 0, none⟩) := (u35.here _ rfl)
   have s223_14 := ((u39.past 14 rfl).trans s222_14)
   have HS_224 := (MapF.same (MapF.keep HS_16 t35) (t39.touch.block _ (MapF.lt (MapF.keep HS_16 t35)) n36_ms_b35))
   refine rgs mixed 116 [.eq (.map (some ms)), .eq (.agg #[.int .i64 f, .int .i64 g]), .eq (.tuple #[.int .i64 q48, .bool true]), .eq (.tuple #[.int .i64 q48, .bool true]), .eq (.int .i64 q48), .eq (.bool true), .eq (.int .i64 q48), .eq (.bool true)] [[(4, none)], [(14, none)], [(39, some 0), (40, some 1)], [(41, some 2)], [(38, some 3)], [(38, some 3)], [(42, some 4)], [(43, some 5)]] d40 z39 (by kernel_rfl) ⟨Ov rfl rfl fun _ _ T ⟨k4, _⟩ => ex_move (k4.trans s219_4),
    Ov rfl rfl fun _ _ T ⟨k14, _⟩ => ex_loadAgg (cs := [.int .i64 f, .int .i64 g]) (k14.trans s223_14) (Try.isAgg178 _) (Try.sizeOf178 _) (cells_of (off := 0) (Ext.keep T.ext t39.here) rfl),
    Ov rfl rfl fun _ _ T ⟨k39, k40, _⟩ => (ex_look_ok (xk := (f, g)) (MapF.keep HS_224 T.ext) pairK Try.underlying195 (zv_3 _) k39 k40).trans (by rw [hq48]; rfl),
    Ov rfl rfl fun _ _ T ⟨k41, _⟩ => ex_move k41,
    Ov rfl rfl fun _ _ T ⟨k38, _⟩ => ex_extract k38 rfl,
    Ov rfl rfl fun _ _ T ⟨k38, _⟩ => ex_extract k38 rfl,
    Ov rfl rfl fun _ _ T ⟨k42, _⟩ => ex_assign k42,
    Ov rfl rfl fun _ _ T ⟨k43, _⟩ => ex_assign k43,
    trivial⟩ ?_
   intro a225 w225 d225 z225 t225 e225 q225
   have s226_16 : a225.eval (.tmp 16) = .bool true := e225.2.2.2.2.2.2.2.1
   refine rgs mixed 116 [.eq (.bool true)] [[(16, none)]] d225 z225 (by kernel_rfl) ⟨Ov rfl rfl fun _ _ T ⟨k16, _⟩ => ex_move (k16.trans s226_16), trivial⟩ ?_
   intro a227 w227 d227 z227 t227 e227 q227
   have s228_44 : a227.eval (.tmp 44) = .bool true := e227.1
   refine wp_cond_true s228_44 ?_
   have s229_15 : a225.eval (.tmp 15) = .int .i64 q48 := e225.2.2.2.2.2.2.1
   have s230_15 := ((q227 15 rfl).trans s229_15)
   refine rgs mixed 116 [.eq (.int .i64 q48), .eq (.int .i64 q48), .eq (.int .i64 0)] [[(15, none)], [(45, some 0)], []] d227 z227 (by kernel_rfl) ⟨Ov rfl rfl fun _ _ T ⟨k15, _⟩ => ex_move (k15.trans s230_15), Ov rfl rfl fun _ _ T ⟨k45, _⟩ => ex_assign k45, Ov rfl rfl fun _ _ T _ => ex_assign rfl, trivial⟩ ?_
   intro a231 w231 d231 z231 t231 e231 q231
   refine wp_ret ?_
   have s232_10 : a231.eval (.tmp 10) = .int .i64 q48 := e231.2.1
   have s233_11 : a231.eval (.tmp 11) = .int .i64 0 := e231.2.2.1
   repeat (first | (with_reducible refine then_ret ?_) | (with_reducible refine block_ret ?_))
   refine rett (rs := [.tmp 10, .tmp 11]) (vs := [.int .i64 q48, .int .i64 0]) Try.results106 ⟨s232_10, ⟨s233_11, trivial⟩⟩ (by simp) d231 ?_
   have x234 := (Touch.trans (Touch.trans (Touch.trans x49 (Ext.touch t225)) (Ext.touch t227)) (Ext.touch t231))
   have H_235 := (ArenaAt.keep (ArenaAt.keep (ArenaAt.keep (ArenaAt.turn (ArenaAt.keep H_15 t35) t39 o37) t225) t227) t231)
   have HS_236 := (MapF.keep (MapF.keep (MapF.keep HS_224 t225) t227) t231)
   exact ⟨Fp, A, _, _, S, cnt, rfl, H_235, HS_236, hS, hout, ⟨x234, fun _ h => .inl h⟩, fun _ _ => grows_same _ _ _, hW, List.prefix_refl _, hm, .inl ⟨rfl, (hS _ _ hq48).2.2⟩⟩

theorem c_join {w : World} {b ms : Nat} {Fp : Nat → Prop} {A : List N3} {most : Int} {S : Int × Int → Option Int} {cnt : Nat} (H : ArenaAt w b Fp A most) (HS : MapF w ms pk iv S cnt) (hout : ¬ Fp ms) (kind f g : Int) (hk : 0 ≤ kind ∧ kind ≤ 3) (hW : Wf A) (hm : (A.length : Int) ≤ most) (hm2 : most ≤ 262144) (hS : SeenOk A kind S) (hf : Okn A f) (hg : Okn A g) : Calls Try.prog 106 #[.pointer (some ⟨b, 0, none⟩), .int .i64 kind, .int .i64 f, .int .i64 g, .map (some ms)] w fun e w' => ∃ Fp' A' r c S' n', e = .returned (.tuple #[.int .i64 r, .int .i64 c]) ∧ JoinPost w w' b ms Fp Fp' A A' most kind S' n' f g r c := c_join_ (104 - min (lev A f) (lev A g)).toNat H HS hout kind f g hk hW hm hm2 hS hf hg (by omega)

theorem take_pre {A B : List N3} (h : A <+: B) (h2 : 2 ≤ A.length) {n : Int} (hn : n = A.length) : B.take (max n 2).toNat = A := by
 obtain ⟨C, rfl⟩ := h
 have : (max n 2).toNat = A.length := by omega
 rw [this, List.take_left]
theorem Res.imp {A A' : List N3} {most e : Int} {good good' : Prop} (h : Res A A' most e good) (hg : good → good') : Res A A' most e good' := ⟨h.wf, h.pre, h.room, h.ok.imp (fun q => ⟨q.1, hg q.2⟩) id⟩
theorem Res.zero {A A' : List N3} {most e : Int} {good : Prop} (h : Res A A' most e good) (he : ¬ e ≠ 0) : Res A A' most 0 good := by
 have : e = 0 := Decidable.of_not_not he
 subst this; exact h
theorem Res.back {A A' : List N3} {most e : Int} {good good' : Prop} (hA : Wf A) (hm : (A.length : Int) ≤ most) (h : Res A A' most e good) (he : e ≠ 0) : Res A A most e good' :=
 ⟨hA, List.prefix_refl _, hm, h.ok.elim (fun q => absurd q.1 he) .inr⟩

set_option maxRecDepth 100000 in
set_option maxHeartbeats 4000000 in
theorem c_Join {w : World} {b : Nat} {Fp : Nat → Prop} {A : List N3} {most : Int} (H : ArenaAt w b Fp A most) (hW : Wf A) (hm : (A.length : Int) ≤ most) (hm2 : most ≤ 262144) (kind f g : Int) (hk : 0 ≤ kind ∧ kind ≤ 3) (hf : Okn A f) (hg : Okn A g) : Calls Try.prog 68 #[.pointer (some ⟨b, 0, none⟩), .int .i64 kind, .int .i64 f, .int .i64 g] w fun e w' => ∃ Fp' A' r c, e = .returned (.tuple #[.int .i64 r, .int .i64 c]) ∧ ArenaAt w' b Fp' A' most ∧ Mut Fp Fp' w w' ∧ Res A A' most c (JoinGood A A' kind f g r) ∧ (c ≠ 0 → A' = A ∧ r = 0) ∧ Grows A A' most c (min (lev A f) (lev A g)) := by
 have hl2 := hW.len
 refine enter 53 Try.ntmps68 Try.func68 rfl (Nat.le_of_ble_eq_true rfl) fun a0 d0 z0 hargs => ?_
 have s0_0 : a0.eval (.tmp 0) = .pointer (some ⟨b, 0, none⟩) := hargs 0 _ rfl
 have s0_1 : a0.eval (.tmp 1) = .int .i64 kind := hargs 1 _ rfl
 have s0_2 : a0.eval (.tmp 2) = .int .i64 f := hargs 2 _ rfl
 have s0_3 : a0.eval (.tmp 3) = .int .i64 g := hargs 3 _ rfl
 have x0 := Touch.refl Fp w
 refine rgs mixed 53 [.eq (.int .i64 0), .eq (.int .i64 0)] [[], []] d0 z0 (by kernel_rfl) ⟨Ov rfl rfl fun _ _ T _ => ex_assign rfl, Ov rfl rfl fun _ _ T _ => ex_assign rfl, trivial⟩ ?_
 intro a1 w1 d1 z1 t1 e1 q1
 refine wp_seq_k fun K2 hK2 => ?_
 refine wp_block ?_
 have s3_0 := ((q1 0 rfl).trans s0_0)
 refine rgs mixed 53 [.eq (.pointer (some ⟨b, 0, none⟩)), .eq (.bool false), .eq (.bool false)] [[(0, none)], [(14, some 0)], [(15, some 1)]] d1 z1 (by kernel_rfl) ⟨Ov rfl rfl fun _ _ T ⟨k0, _⟩ => ex_move (k0.trans s3_0), Ov rfl rfl fun _ _ T ⟨k14, _⟩ => ex_ptr_eql_nil k14 rfl (by kernel_rfl), Ov rfl rfl fun _ _ T ⟨k15, _⟩ => ex_assign k15, trivial⟩ ?_
 intro a4 w4 d4 z4 t4 e4 q4
 have s5_13 : a4.eval (.tmp 13) = .bool false := e4.2.2.1
 refine wp_cond_false s5_13 ?_
 refine wp_seq ?_
 refine seq_begin ?_
 refine sp z4 rfl rfl (ex_move ((q4 0 rfl).trans s3_0)) ?_; intro a6 u6 z6
 refine sp z6 rfl rfl (ex_move ((u6.past 2 rfl).trans ((q4 2 rfl).trans ((q1 2 rfl).trans s0_2)))) ?_; intro a7 u7 z7
 have H_9 := (ArenaAt.keep (ArenaAt.keep H t1) t4)
 refine scx z7 rfl rfl (exl_call Try.func62 rfl rfl (cons_ops ((u7.past 17 rfl).trans (u6.here _ rfl)) (cons_ops (u7.here _ rfl) nil_ops))) (a_has H_9 _) ?_; intro w8 a8 t8 u8 z8
 refine sp z8 rfl rfl (ex_not (u8.here _ rfl)) ?_; intro a10 u10 z10
 refine sp z10 rfl rfl (ex_move (u10.here _ rfl)) ?_; intro a11 u11 z11
 refine sg z11 rfl rfl rfl (u11.here _ rfl) (fun hcQ => ex_move ((u11.past 0 rfl).trans ((u10.past 0 rfl).trans ((u8.past 0 rfl).trans ((u7.past 0 rfl).trans ((u6.past 0 rfl).trans ((q4 0 rfl).trans s3_0))))))) ?_; intro a12 u12 z12
 have p14 := fr4 q1 q4 u6.past u7.past
 have p15 := fr4 u8.past u10.past u11.past u12.past
 refine sg z12 rfl rfl rfl ((u12.past 21 rfl).trans (u11.here _ rfl)) (fun hcQ => ex_move ((p15 3 rfl).trans ((p14 3 rfl).trans s0_3))) ?_; intro a13 u13 z13
 have H_17 := (ArenaAt.keep H_9 t8)
 refine scg z13 rfl rfl rfl ((u13.past 21 rfl).trans ((u12.past 21 rfl).trans (u11.here _ rfl))) (fun hcQ => exl_call Try.func62 rfl rfl (cons_ops (((u13.past 22 rfl).trans (u12.here _ rfl)).trans (if_pos hcQ)) (cons_ops ((u13.here _ rfl).trans (if_pos hcQ)) nil_ops))) (fun hcQ => a_has H_17 _) ?_; intro w16 a16 t16 u16 z16
 refine sg z16 rfl rfl rfl ((u16.past 21 rfl).trans ((u13.past 21 rfl).trans ((u12.past 21 rfl).trans (u11.here _ rfl)))) (fun hcQ => ex_not ((u16.here _ rfl).trans (if_pos hcQ))) ?_; intro a18 u18 z18
 refine sp z18 rfl rfl (ex_pick_or ((u18.past 21 rfl).trans ((u16.past 21 rfl).trans ((u13.past 21 rfl).trans ((u12.past 21 rfl).trans (u11.here _ rfl))))) rfl (u18.here _ rfl)) ?_; intro a19 u19 z19
 refine sp z19 rfl rfl (ex_move (u19.here _ rfl)) ?_; intro a20 u20 z20
 have p22 := fr4 u13.past u16.past u18.past u19.past
 refine sg z20 rfl rfl rfl (u20.here _ rfl) (fun hcQ => ex_move ((u20.past 1 rfl).trans ((p22 1 rfl).trans ((p15 1 rfl).trans ((p14 1 rfl).trans s0_1))))) ?_; intro a21 u21 z21
 refine sg z21 rfl rfl rfl ((u21.past 27 rfl).trans (u20.here _ rfl)) (fun hcQ => ex_lss ((u21.here _ rfl).trans (if_pos hcQ)) rfl) ?_; intro a23 u23 z23
 refine sp z23 rfl rfl (ex_pick_or ((u23.past 27 rfl).trans ((u21.past 27 rfl).trans (u20.here _ rfl))) rfl (u23.here _ rfl)) ?_; intro a24 u24 z24
 refine sp z24 rfl rfl (ex_move (u24.here _ rfl)) ?_; intro a25 u25 z25
 have p27 := fr4 u20.past u21.past u23.past u24.past
 have p28 := fr4 p14 p15 p22 p27
 refine sg z25 rfl rfl rfl (u25.here _ rfl) (fun hcQ => ex_move ((u25.past 1 rfl).trans ((p28 1 rfl).trans s0_1))) ?_; intro a26 u26 z26
 refine sg z26 rfl rfl rfl ((u26.past 31 rfl).trans (u25.here _ rfl)) (fun hcQ => ex_gtr ((u26.here _ rfl).trans (if_pos hcQ)) rfl) ?_; intro a29 u29 z29
 refine sp z29 rfl rfl (ex_pick_or ((u29.past 31 rfl).trans ((u26.past 31 rfl).trans (u25.here _ rfl))) rfl (u29.here _ rfl)) ?_; intro a30 u30 z30
 refine sp z30 rfl rfl (ex_assign (u30.here _ rfl)) ?_; intro a31 u31 z31
 have d32 := (u31.defs.trans (u30.defs.trans (u29.defs.trans (u26.defs.trans (u25.defs.trans (u24.defs.trans (u23.defs.trans (u21.defs.trans (u20.defs.trans (u19.defs.trans (u18.defs.trans (u16.defs.trans (u13.defs.trans (u12.defs.trans (u11.defs.trans (u10.defs.trans (u8.defs.trans (u7.defs.trans (u6.defs.trans d4)))))))))))))))))))
 refine seq_end ?_
 refine then_norm ?_
 have x33 := (Touch.trans (Touch.trans (Touch.trans (Touch.trans x0 (Ext.touch t1)) (Ext.touch t4)) (Ext.touch t8)) (Ext.touch t16))
 rcases Bool.eq_false_or_eq_true ((((!(decide (Okn A f))) || (!(decide (Okn A g)))) || (decide (kind < 0))) || (decide (3 < kind))) with y34 | y34
 ·have c34 := y34; try simp only [Bool.and_eq_true, Bool.or_eq_true, Bool.and_eq_false_iff, Bool.or_eq_false_iff, Bool.not_eq_true', Bool.not_eq_false', decide_eq_true_eq, decide_eq_false_iff_not] at c34
  have s35_16 : a31.eval (.tmp 16) = .bool ((((!(decide (Okn A f))) || (!(decide (Okn A g)))) || (decide (kind < 0))) || (decide (3 < kind))) := (u31.here _ rfl)
  refine wp_cond_true (s35_16.trans (by rw [y34])) ?_
  refine rgs mixed 53 [.eq (.int .i64 0), .eq (.int .i64 1)] [[], []] d32 z31 (by kernel_rfl) ⟨Ov rfl rfl fun _ _ T _ => ex_assign rfl, Ov rfl rfl fun _ _ T _ => ex_assign rfl, trivial⟩ ?_
  intro a36 w36 d36 z36 t36 e36 q36
  refine wp_ret ?_
  have s37_8 : a36.eval (.tmp 8) = .int .i64 0 := e36.1
  have s38_9 : a36.eval (.tmp 9) = .int .i64 1 := e36.2.1
  repeat (first | (with_reducible refine then_ret ?_) | (with_reducible refine block_ret ?_))
  refine rett (rs := [.tmp 8, .tmp 9]) (vs := [.int .i64 0, .int .i64 1]) Try.results68 ⟨s37_8, ⟨s38_9, trivial⟩⟩ (by simp) d36 ?_
  exfalso; simp only [Okn, Bool.or_eq_true, Bool.not_eq_true', decide_eq_true_eq, decide_eq_false_iff_not] at *; omega
 ·have c34 := y34; try simp only [Bool.and_eq_true, Bool.or_eq_true, Bool.and_eq_false_iff, Bool.or_eq_false_iff, Bool.not_eq_true', Bool.not_eq_false', decide_eq_true_eq, decide_eq_false_iff_not] at c34
  have s39_16 : a31.eval (.tmp 16) = .bool ((((!(decide (Okn A f))) || (!(decide (Okn A g)))) || (decide (kind < 0))) || (decide (3 < kind))) := (u31.here _ rfl)
  refine wp_cond_false (s39_16.trans (by rw [y34])) ?_
  refine wp_skip ?_
  repeat (with_reducible refine block_norm ?_)
  refine hK2 _ _ ?_
  refine wp_seq ?_
  refine seq_begin ?_
  have p41 := fr4 u25.past u26.past u29.past u30.past
  refine sp z31 rfl rfl (ex_move ((u31.past 0 rfl).trans ((p41 0 rfl).trans ((p27 0 rfl).trans ((p22 0 rfl).trans ((p15 0 rfl).trans ((u7.past 0 rfl).trans ((u6.past 0 rfl).trans ((q4 0 rfl).trans s3_0))))))))) ?_; intro a40 u40 z40
  have H_43 := (ArenaAt.keep H_17 t16)
  refine scx z40 rfl rfl (exl_call Try.func16 rfl rfl (cons_ops (u40.here _ rfl) nil_ops)) (a_len H_43) ?_; intro w42 a42 t42 u42 z42
  refine sp z42 rfl rfl (ex_assign (u42.here _ rfl)) ?_; intro a44 u44 z44
  have d45 := (u44.defs.trans (u42.defs.trans (u40.defs.trans d32)))
  refine seq_end ?_
  refine then_norm ?_
  refine wp_seq ?_
  refine seq_begin ?_
  have p47 := fr4 u31.past u40.past u42.past u44.past
  refine sp z44 rfl rfl (ex_move ((p47 0 rfl).trans ((p41 0 rfl).trans ((p27 0 rfl).trans ((p22 0 rfl).trans ((p15 0 rfl).trans ((u7.past 0 rfl).trans ((u6.past 0 rfl).trans ((q4 0 rfl).trans s3_0))))))))) ?_; intro a46 u46 z46
  refine sp z46 rfl rfl (ex_move ((u46.past 1 rfl).trans ((p47 1 rfl).trans ((p41 1 rfl).trans ((p28 1 rfl).trans s0_1))))) ?_; intro a48 u48 z48
  refine sp z48 rfl rfl (ex_move ((u48.past 2 rfl).trans ((u46.past 2 rfl).trans ((p47 2 rfl).trans ((p41 2 rfl).trans ((p28 2 rfl).trans s0_2)))))) ?_; intro a49 u49 z49
  refine sp z49 rfl rfl (ex_move ((u49.past 3 rfl).trans ((u48.past 3 rfl).trans ((u46.past 3 rfl).trans ((p47 3 rfl).trans ((p41 3 rfl).trans ((p28 3 rfl).trans s0_3))))))) ?_; intro a50 u50 z50
  refine snew (mk := fun bQ => .map (some bQ)) z50 rfl rfl (ex_makeMap Try.underlying195) ?_; intro b51 w51 a51 t51 g51 hb51 u51 z51
  have H_53 := (ArenaAt.keep H_43 t42)
  have o52 : ¬ Fp b51 := fun hQ => by have := ArenaAt.lt H_53 hQ; omega
  have x55 := (Touch.trans x33 (Ext.touch t42))
  have yb51_54 := Nat.le_trans (Touch.size x55) g51
  have hm51 := MapF.made (ek := pk) (ev := iv) hb51
  have H_57 := (ArenaAt.keep H_53 t51)
  refine sc z51 rfl rfl (exl_call Try.func106 rfl rfl (cons_ops ((u51.past 38 rfl).trans ((u50.past 38 rfl).trans ((u49.past 38 rfl).trans ((u48.past 38 rfl).trans (u46.here _ rfl))))) (cons_ops ((u51.past 39 rfl).trans ((u50.past 39 rfl).trans ((u49.past 39 rfl).trans (u48.here _ rfl)))) (cons_ops ((u51.past 40 rfl).trans ((u50.past 40 rfl).trans (u49.here _ rfl))) (cons_ops ((u51.past 41 rfl).trans (u50.here _ rfl)) (cons_ops (u51.here _ rfl) nil_ops)))))) (c_join H_57 hm51 o52 kind f g hk hW hm hm2 (SeenOk.none _ _) hf hg) ?_
  rintro e56 w56 ⟨Fp56, A56, r56, c56, S56, n56, he56, J56⟩; refine ⟨_, he56, ?_⟩; intro a56 u56 z56
  have i58 := fun jQ (hQ : (Fj b51 Fp) jQ) => (hQ.elim (fun eQ => by rw [eQ]; exact (Or.inr yb51_54)) ((fun jQ hQ => Or.inl hQ) jQ) : (Fp) jQ ∨ w.heap.size ≤ jQ)
  have x59 := (Touch.trans x55 (Ext.touch t51))
  have i60 := Mut.inF J56.mt x59 i58
  refine sp z56 rfl rfl (ex_move (u56.here _ rfl)) ?_; intro a61 u61 z61
  refine sp z61 rfl rfl (ex_extract (u61.here _ rfl) rfl) ?_; intro a62 u62 z62
  refine sp z62 rfl rfl (ex_extract ((u62.past 37 rfl).trans (u61.here _ rfl)) rfl) ?_; intro a63 u63 z63
  refine sp z63 rfl rfl (ex_assign ((u63.past 44 rfl).trans (u62.here _ rfl))) ?_; intro a64 u64 z64
  refine sp z64 rfl rfl (ex_assign ((u64.past 45 rfl).trans (u63.here _ rfl))) ?_; intro a65 u65 z65
  have d66 := (u65.defs.trans (u64.defs.trans (u63.defs.trans (u62.defs.trans (u61.defs.trans (u56.defs.trans (u51.defs.trans (u50.defs.trans (u49.defs.trans (u48.defs.trans (u46.defs.trans d45)))))))))))
  refine seq_end ?_
  refine then_norm ?_
  refine wp_seq_k fun K67 hK67 => ?_
  have s68_12 : a65.eval (.tmp 12) = .int .i64 c56 := (u65.here _ rfl)
  refine rgs mixed 53 [.eq (.int .i64 c56), .eq (.bool (decide (c56 ≠ 0)))] [[(12, none)], [(46, some 0)]] d66 z65 (by kernel_rfl) ⟨Ov rfl rfl fun _ _ T ⟨k12, _⟩ => ex_move (k12.trans s68_12), Ov rfl rfl fun _ _ T ⟨k46, _⟩ => ex_neq k46 rfl, trivial⟩ ?_
  intro a69 w69 d69 z69 t69 e69 q69
  have x70 := (Touch.trans (Touch.mut x59 J56.mt i58) (Ext.touch t69))
  by_cases c71 : c56 ≠ 0
  ·have y71 := decide_eq_true c71
   have s72_47 : a69.eval (.tmp 47) = .bool (decide (c56 ≠ 0)) := e69.2.1
   refine wp_cond_true (s72_47.trans (by rw [y71])) ?_
   have len2 := J56.res.wf.len; have roomm := J56.res.room
   refine wp_seq ?_
   refine seq_begin ?_
   have p74 := fr4 u46.past u48.past u49.past u50.past
   have p75 := fr4 u51.past u56.past u61.past u62.past
   have p76 := fr4 p41 p47 p74 p75
   have p77 := fr4 u63.past u64.past u65.past q69
   refine sp z69 rfl rfl (ex_move ((p77 0 rfl).trans ((p76 0 rfl).trans ((p27 0 rfl).trans ((p22 0 rfl).trans ((p15 0 rfl).trans ((u7.past 0 rfl).trans ((u6.past 0 rfl).trans ((q4 0 rfl).trans s3_0))))))))) ?_; intro a73 u73 z73
   refine sp z73 rfl rfl (ex_move ((u73.past 10 rfl).trans ((p77 10 rfl).trans ((p75 10 rfl).trans ((p74 10 rfl).trans (u44.here _ rfl)))))) ?_; intro a78 u78 z78
   have J56.at__80 := (ArenaAt.keep J56.at_ t69)
   refine sc z78 rfl rfl (exl_call Try.func101 rfl rfl (cons_ops ((u78.past 48 rfl).trans (u73.here _ rfl)) (cons_ops (u78.here _ rfl) nil_ops))) (c_cut J56.at__80 (A.length : Int) (by omega) (by omega) J56.res.wf.nodup) ?_
   rintro e79 w79 ⟨he79, H79, m79⟩; refine ⟨_, he79, ?_⟩; intro a79 u79 z79
   have J56.seen_81 := (MapF.keep J56.seen t69)
   have o82 := Mut.out m79 (MapF.lt J56.seen_81) J56.out
   have i83 := Mut.inF m79 x70 (fun jQ hQ => i60 jQ (Or.inr hQ))
   have d84 := (u79.defs.trans (u78.defs.trans (u73.defs.trans d69)))
   refine seq_end ?_
   refine then_norm ?_
   have s85_12 := ((u79.past 12 rfl).trans ((u78.past 12 rfl).trans ((u73.past 12 rfl).trans ((q69 12 rfl).trans s68_12))))
   refine rgs mixed 53 [.eq (.int .i64 c56), .eq (.int .i64 0), .eq (.int .i64 c56)] [[(12, none)], [], [(51, some 0)]] d84 z79 (by kernel_rfl) ⟨Ov rfl rfl fun _ _ T ⟨k12, _⟩ => ex_move (k12.trans s85_12), Ov rfl rfl fun _ _ T _ => ex_assign rfl, Ov rfl rfl fun _ _ T ⟨k51, _⟩ => ex_assign k51, trivial⟩ ?_
   intro a86 w86 d86 z86 t86 e86 q86
   refine wp_ret ?_
   have s87_8 : a86.eval (.tmp 8) = .int .i64 0 := e86.2.1
   have s88_9 : a86.eval (.tmp 9) = .int .i64 c56 := e86.2.2.1
   repeat (first | (with_reducible refine then_ret ?_) | (with_reducible refine block_ret ?_))
   refine rett (rs := [.tmp 8, .tmp 9]) (vs := [.int .i64 0, .int .i64 c56]) Try.results68 ⟨s87_8, ⟨s88_9, trivial⟩⟩ (by simp) d86 ?_
   have et := take_pre J56.res.pre hl2 (n := (A.length : Int)) rfl
   have H79_89 := (ArenaAt.keep H79 t86)
   have HH := H79_89
   rw [et] at HH
   have x90 := (Touch.trans (Touch.mut x70 m79 i83) (Ext.touch t86))
   exact ⟨_, _, _, _, rfl, HH, ⟨x90, i83⟩, J56.res.back hW hm c71, fun _ => ⟨rfl, rfl⟩, (J56.gr _ rfl).back⟩
  ·have y71 := decide_eq_false c71
   have s91_47 : a69.eval (.tmp 47) = .bool (decide (c56 ≠ 0)) := e69.2.1
   refine wp_cond_false (s91_47.trans (by rw [y71])) ?_
   refine wp_skip ?_
   repeat (with_reducible refine block_norm ?_)
   refine hK67 _ _ ?_
   have s92_11 : a64.eval (.tmp 11) = .int .i64 r56 := (u64.here _ rfl)
   have s93_11 := ((q69 11 rfl).trans ((u65.past 11 rfl).trans s92_11))
   refine rgs mixed 53 [.eq (.int .i64 r56), .eq (.int .i64 r56), .eq (.int .i64 0)] [[(11, none)], [(52, some 0)], []] d69 z69 (by kernel_rfl) ⟨Ov rfl rfl fun _ _ T ⟨k11, _⟩ => ex_move (k11.trans s93_11), Ov rfl rfl fun _ _ T ⟨k52, _⟩ => ex_assign k52, Ov rfl rfl fun _ _ T _ => ex_assign rfl, trivial⟩ ?_
   intro a94 w94 d94 z94 t94 e94 q94
   refine wp_ret ?_
   have s95_8 : a94.eval (.tmp 8) = .int .i64 r56 := e94.2.1
   have s96_9 : a94.eval (.tmp 9) = .int .i64 0 := e94.2.2.1
   repeat (first | (with_reducible refine then_ret ?_) | (with_reducible refine block_ret ?_))
   refine rett (rs := [.tmp 8, .tmp 9]) (vs := [.int .i64 r56, .int .i64 0]) Try.results68 ⟨s95_8, ⟨s96_9, trivial⟩⟩ (by simp) d94 ?_
   have J56.at__97 := (ArenaAt.keep (ArenaAt.keep J56.at_ t69) t94)
   have x98 := (Touch.trans x70 (Ext.touch t94))
   exact ⟨_, _, _, _, rfl, J56.at__97, ⟨x98, (fun jQ hQ => i60 jQ (Or.inr hQ))⟩, J56.res.zero c71, fun hQ => absurd rfl hQ, (J56.gr _ rfl).zero c71⟩

end Go.Proofs.Yticodddigaiipaa
