/-
  Contracts of functions of the given program, each proved by a walk through its code: what a call answers, and what it leaves of memory; conditions: those ahead of each theorem's colon.
-/
import Derived.Test.YticodddigaiipaaT3
set_option linter.unusedVariables false
set_option linter.unusedSimpArgs false
namespace Go.Proofs.Yticodddigaiipaa
open Go.RowKit
theorem bd_178_0Ii64_1Ii64 (x0 : Int) (x1 : Int) (w : World) : (Instr.build 178 #[(0, .int .i64 x0), (1, .int .i64 x1)]).run Try.prog w = .ok (.agg #[.int .i64 x0, .int .i64 x1]) w := by kernel_rfl
theorem zv_178 (w : World) : (zeroValue 178).run Try.prog w = .ok (.agg #[.int .i64 0, .int .i64 0]) w := by kernel_rfl

theorem pairK : KeyOk Try.prog 178 pk := pairKey Try.underlying178 Try.underlying3 (Try.isAgg3) (by kernel_rfl) (fun em x w => by cases em <;> kernel_rfl)
theorem short_ok {A : List N3} {k f g : Int} (h : Wf A) (hk : 0 ≤ k ∧ k ≤ 3) (hf : Okn A f) (hg : Okn A g) (hs : (short k f g).2 = true) : JoinGood A A k f g (short k f g).1 := by
  have h0 : Okn A 0 := ⟨Int.le_refl _, by have := h.len; omega⟩
  have h1 : Okn A 1 := ⟨by omega, by have := h.len; omega⟩
  have l0 : lev A 0 = 104 := by rw [lev, h.lo]; rfl
  have l1 : lev A 1 = 104 := by rw [lev, h.hi]; rfl
  have lf := (lev_le h hf).2.1
  have lg := (lev_le h hg).2.1
  have g0 : (∀ v, opK k (den A v f) (den A v g) = false) → JoinGood A A k f g 0 := fun e => ⟨h0, fun v => (e v).symm ▸ rfl, by rw [l0]; omega⟩
  have g1 : (∀ v, opK k (den A v f) (den A v g) = true) → JoinGood A A k f g 1 := fun e => ⟨h1, fun v => (e v).symm ▸ rfl, by rw [l1]; omega⟩
  have gf : (∀ v, opK k (den A v f) (den A v g) = den A v f) → JoinGood A A k f g f := fun e => ⟨hf, fun v => (e v).symm, Int.min_le_left _ _⟩
  have gg : (∀ v, opK k (den A v f) (den A v g) = den A v g) → JoinGood A A k f g g := fun e => ⟨hg, fun v => (e v).symm, Int.min_le_right _ _⟩
  clear h0 h1 l0 l1 lf lg hf hg h
  generalize hq : short k f g = q at hs ⊢
  unfold short at hq
  simp only [Bool.or_eq_true, decide_eq_true_eq] at hq
  repeat' split at hq
  all_goals subst hq
  all_goals (try (exact absurd hs (by decide)))
  all_goals (have hd : k = 0 ∨ k = 1 ∨ k = 2 ∨ k = 3 := by omega)
  all_goals first
    | exact g0 fun v => by (rcases hd with rfl | rfl | rfl | rfl) <;> (try omega) <;> (try (rcases ‹(_ ∨ _) ∨ _› with (rfl | rfl) | rfl)) <;> (try (rcases ‹_ ∨ _› with rfl | rfl)) <;> (try subst_vars) <;> simp [opK, den_zero, den_one]
    | exact g1 fun v => by (rcases hd with rfl | rfl | rfl | rfl) <;> (try omega) <;> (try (rcases ‹_ ∨ _› with rfl | rfl)) <;> (try subst_vars) <;> simp [opK, den_zero, den_one]
    | exact gg fun v => by (rcases hd with rfl | rfl | rfl | rfl) <;> (try omega) <;> (try (rcases ‹_ ∨ _› with rfl | rfl)) <;> (try subst_vars) <;> simp [opK, den_zero, den_one]
    | exact gf fun v => by (rcases hd with rfl | rfl | rfl | rfl) <;> (try omega) <;> (try (rcases ‹_ ∨ _› with rfl | rfl)) <;> (try subst_vars) <;> simp [opK, den_zero, den_one]
theorem short_no {A : List N3} {k f g : Int} (h : Wf A) (hf : Okn A f) (hg : Okn A g) (hs : (short k f g).2 = false) : min (lev A f) (lev A g) < 104 := by
  have lf := lev_le h hf
  have lg := lev_le h hg
  have key : ¬ (f < 2 ∧ g < 2) := by
    rintro ⟨a, b⟩
    have ha : f = 0 ∨ f = 1 := by unfold Okn at hf; omega
    have hb : g = 0 ∨ g = 1 := by unfold Okn at hg; omega
    unfold short at hs
    rcases ha with rfl | rfl <;> rcases hb with rfl | rfl <;> simp at hs <;> (repeat' split at hs) <;> simp at hs
  omega

/-- the arena's blocks and the map's -/
def Fj (ms : Nat) (Fp : Nat → Prop) : Nat → Prop := fun k => k = ms ∨ Fp k
structure JoinPost (w w' : World) (b ms : Nat) (Fp Fp' : Nat → Prop) (A A' : List N3) (most kind : Int) (S' : Int × Int → Option Int) (n' : Nat) (f g r c : Int) : Prop where
  at_ : ArenaAt w' b Fp' A' most
  seen : MapF w' ms pk iv S' n'
  ok : SeenOk A' kind S'
  out : ¬ Fp' ms
  mt : Mut (Fj ms Fp) (Fj ms Fp') w w'
  res : Res A A' most c (JoinGood A A' kind f g r)

set_option maxRecDepth 100000 in
set_option maxHeartbeats 4000000 in
theorem c_join_ : ∀ (N : Nat) {w : World} {b ms : Nat} {Fp : Nat → Prop} {A : List N3} {most : Int} {S : Int × Int → Option Int} {cnt : Nat} (H : ArenaAt w b Fp A most) (HS : MapF w ms pk iv S cnt) (hout : ¬ Fp ms) (kind f g : Int) (hk : 0 ≤ kind ∧ kind ≤ 3) (hW : Wf A) (hm : (A.length : Int) ≤ most) (hm2 : most ≤ 262144) (hS : SeenOk A kind S) (hf : Okn A f) (hg : Okn A g) (hN : 104 - min (lev A f) (lev A g) ≤ N), Calls Try.prog 106 #[.pointer (some ⟨b, 0, none⟩), .int .i64 kind, .int .i64 f, .int .i64 g, .map (some ms)] w fun e w' => ∃ Fp' A' r c S' n', e = .returned (.tuple #[.int .i64 r, .int .i64 c]) ∧ JoinPost w w' b ms Fp Fp' A A' most kind S' n' f g r c := by
  intro N
  induction N using Nat.strongRecOn with
  | _ N ihs =>
  intro w b ms Fp A most S cnt H HS hout kind f g hk hW hm hm2 hS hf hg hN
  have ih : ∀ {w : World} {b ms : Nat} {Fp : Nat → Prop} {A : List N3} {most : Int} {S : Int × Int → Option Int} {cnt : Nat} (H : ArenaAt w b Fp A most) (HS : MapF w ms pk iv S cnt) (hout : ¬ Fp ms) (kind f g : Int) (hk : 0 ≤ kind ∧ kind ≤ 3) (hW : Wf A) (hm : (A.length : Int) ≤ most) (hm2 : most ≤ 262144) (hS : SeenOk A kind S) (hf : Okn A f) (hg : Okn A g) (hN' : 104 - min (lev A f) (lev A g) < N), Calls Try.prog 106 #[.pointer (some ⟨b, 0, none⟩), .int .i64 kind, .int .i64 f, .int .i64 g, .map (some ms)] w fun e w' => ∃ Fp' A' r c S' n', e = .returned (.tuple #[.int .i64 r, .int .i64 c]) ∧ JoinPost w w' b ms Fp Fp' A A' most kind S' n' f g r c := @fun w b ms Fp A most S cnt H HS hout kind f g hk hW hm hm2 hS hf hg h => ihs (104 - min (lev A f) (lev A g)).toNat (by have := (lev_le hW hf).2.1; have := (lev_le hW hg).2.1; omega) H HS hout kind f g hk hW hm hm2 hS hf hg (by omega)
  obtain ⟨lv, hlv⟩ : ∃ lv : Int, (if (at_ A n0 g).1 < (at_ A n0 f).1 then (at_ A n0 g).1 else (at_ A n0 f).1) = lv := ⟨_, rfl⟩
  have hlv' : lv = min (lev A f) (lev A g) := by subst hlv; simp only [lev, nd]; split <;> omega
  have hf' := hf; have hg' := hg; unfold Okn at hf' hg'
  refine enter 116 Try.ntmps106 Try.func106 rfl (Nat.le_of_ble_eq_true rfl) fun a0 d0 z0 hargs => ?_
  have s0_0 : a0.eval (.tmp 0) = .pointer (some ⟨b, 0, none⟩) := hargs 0 _ rfl
  have s0_1 : a0.eval (.tmp 1) = .int .i64 kind := hargs 1 _ rfl
  have s0_2 : a0.eval (.tmp 2) = .int .i64 f := hargs 2 _ rfl
  have s0_3 : a0.eval (.tmp 3) = .int .i64 g := hargs 3 _ rfl
  have s0_4 : a0.eval (.tmp 4) = .map (some ms) := hargs 4 _ rfl
  have x0 := Touch.refl (Fj ms Fp) w
  refine rgs mixed 116 [.eq (.int .i64 0), .eq (.int .i64 0)] [[], []] d0 z0 (by kernel_rfl) ⟨Ov rfl rfl fun _ _ T _ => ex_assign rfl, Ov rfl rfl fun _ _ T _ => ex_assign rfl, trivial⟩ ?_
  intro a1 w1 d1 z1 t1 e1 q1
  refine wp_seq_k fun K2 hK2 => ?_
  refine wp_seq ?_
  refine seq_begin ?_
  refine sp z1 rfl rfl (ex_move ((q1 1 rfl).trans s0_1)) ?_; intro a3 u3 z3
  refine sp z3 rfl rfl (ex_move ((u3.past 2 rfl).trans ((q1 2 rfl).trans s0_2))) ?_; intro a4 u4 z4
  refine sp z4 rfl rfl (ex_move ((u4.past 3 rfl).trans ((u3.past 3 rfl).trans ((q1 3 rfl).trans s0_3)))) ?_; intro a5 u5 z5
  refine scx z5 rfl rfl (exl_call Try.func131 rfl rfl (cons_ops ((u5.past 27 rfl).trans ((u4.past 27 rfl).trans (u3.here _ rfl))) (cons_ops ((u5.past 28 rfl).trans (u4.here _ rfl)) (cons_ops (u5.here _ rfl) nil_ops)))) (c_short kind f g  _) ?_; intro w6 a6 t6 u6 z6
  refine sp z6 rfl rfl (ex_move (u6.here _ rfl)) ?_; intro a7 u7 z7
  refine sp z7 rfl rfl (ex_extract (u7.here _ rfl) rfl) ?_; intro a8 u8 z8
  refine sp z8 rfl rfl (ex_extract ((u8.past 26 rfl).trans (u7.here _ rfl)) rfl) ?_; intro a9 u9 z9
  refine sp z9 rfl rfl (ex_assign ((u9.past 31 rfl).trans (u8.here _ rfl))) ?_; intro a10 u10 z10
  refine sp z10 rfl rfl (ex_assign ((u10.past 32 rfl).trans (u9.here _ rfl))) ?_; intro a11 u11 z11
  have d12 := (u11.defs.trans (u10.defs.trans (u9.defs.trans (u8.defs.trans (u7.defs.trans (u6.defs.trans (u5.defs.trans (u4.defs.trans (u3.defs.trans d1)))))))))
  refine seq_end ?_
  refine then_norm ?_
  have s13_13 : a11.eval (.tmp 13) = .bool ((short kind f g).2) := (u11.here _ rfl)
  refine rgs mixed 116 [.eq (.bool ((short kind f g).2))] [[(13, none)]] d12 z11 (by kernel_rfl) ⟨Ov rfl rfl fun _ _ T ⟨k13, _⟩ => ex_move (k13.trans s13_13), trivial⟩ ?_
  intro a14 w14 d14 z14 t14 e14 q14
  rcases Bool.eq_false_or_eq_true ((short kind f g).2) with y15 | y15
  · have c15 := y15
    have s16_33 : a14.eval (.tmp 33) = .bool ((short kind f g).2) := e14.1
    refine wp_cond_true (s16_33.trans (by rw [y15])) ?_
    have s17_12 : a10.eval (.tmp 12) = .int .i64 ((short kind f g).1) := (u10.here _ rfl)
    have s18_12 := ((q14 12 rfl).trans ((u11.past 12 rfl).trans s17_12))
    refine rgs mixed 116 [.eq (.int .i64 ((short kind f g).1)), .eq (.int .i64 ((short kind f g).1)), .eq (.int .i64 0)] [[(12, none)], [(34, some 0)], []] d14 z14 (by kernel_rfl) ⟨Ov rfl rfl fun _ _ T ⟨k12, _⟩ => ex_move (k12.trans s18_12), Ov rfl rfl fun _ _ T ⟨k34, _⟩ => ex_assign k34, Ov rfl rfl fun _ _ T _ => ex_assign rfl, trivial⟩ ?_
    intro a19 w19 d19 z19 t19 e19 q19
    refine wp_ret ?_
    have s20_10 : a19.eval (.tmp 10) = .int .i64 ((short kind f g).1) := e19.2.1
    have s21_11 : a19.eval (.tmp 11) = .int .i64 0 := e19.2.2.1
    repeat (first | (with_reducible refine then_ret ?_) | (with_reducible refine block_ret ?_))
    refine rett (rs := [.tmp 10, .tmp 11]) (vs := [.int .i64 ((short kind f g).1), .int .i64 0]) Try.results106 ⟨s20_10, ⟨s21_11, trivial⟩⟩ (by simp) d19 ?_
    have x22 := (Touch.trans (Touch.trans (Touch.trans (Touch.trans x0 (Ext.touch t1)) (Ext.touch t6)) (Ext.touch t14)) (Ext.touch t19))
    have H_23 := (ArenaAt.keep (ArenaAt.keep (ArenaAt.keep (ArenaAt.keep H t1) t6) t14) t19)
    have HS_24 := (MapF.keep (MapF.keep (MapF.keep (MapF.keep HS t1) t6) t14) t19)
    exact ⟨Fp, A, _, _, S, cnt, rfl, H_23, HS_24, hS, hout, ⟨x22, fun _ h => .inl h⟩, hW, List.prefix_refl _, hm, .inl ⟨rfl, short_ok hW hk hf hg y15⟩⟩
  · have c15 := y15
    have s25_33 : a14.eval (.tmp 33) = .bool ((short kind f g).2) := e14.1
    refine wp_cond_false (s25_33.trans (by rw [y15])) ?_
    refine wp_skip ?_
    repeat (with_reducible refine block_norm ?_)
    refine hK2 _ _ ?_
    refine wp_seq ?_
    refine seq_begin ?_
    refine sp z14 rfl rfl (ex_move ((q14 2 rfl).trans ((u11.past 2 rfl).trans ((u10.past 2 rfl).trans ((u9.past 2 rfl).trans ((u8.past 2 rfl).trans ((u7.past 2 rfl).trans ((u6.past 2 rfl).trans ((u5.past 2 rfl).trans ((u4.past 2 rfl).trans ((u3.past 2 rfl).trans ((q1 2 rfl).trans s0_2)))))))))))) ?_; intro a26 u26 z26
    refine sp z26 rfl rfl (ex_move ((u26.past 3 rfl).trans ((q14 3 rfl).trans ((u11.past 3 rfl).trans ((u10.past 3 rfl).trans ((u9.past 3 rfl).trans ((u8.past 3 rfl).trans ((u7.past 3 rfl).trans ((u6.past 3 rfl).trans ((u5.past 3 rfl).trans ((u4.past 3 rfl).trans ((u3.past 3 rfl).trans ((q1 3 rfl).trans s0_3))))))))))))) ?_; intro a27 u27 z27
    refine sp z27 rfl rfl (exl_build (cons_parts ((u27.past 35 rfl).trans (u26.here _ rfl)) (cons_parts (u27.here _ rfl) nil_parts)) (bd_178_0Ii64_1Ii64 f g _)) ?_; intro a28 u28 z28
    refine salloc z28 rfl (zv_178 _) ?_; intro b29 w29 a29 t29 g29 hb29 u29 z29
    have HS_31 := (MapF.keep (MapF.keep (MapF.keep HS t1) t6) t14)
    have n30_ms_b29 := ne_lt (MapF.lt HS_31) g29
    have H_33 := (ArenaAt.keep (ArenaAt.keep (ArenaAt.keep H t1) t6) t14)
    have o32 : ¬ Fp b29 := fun hQ => by have := ArenaAt.lt H_33 hQ; omega
    have x35 := (Touch.trans (Touch.trans (Touch.trans x0 (Ext.touch t1)) (Ext.touch t6)) (Ext.touch t14))
    have yb29_34 := Nat.le_trans (Touch.size x35) g29
    refine sstore (cs := [.int .i64 0, .int .i64 0]) (vs := [.int .i64 f, .int .i64 g]) (cs' := [.int .i64 f, .int .i64 g]) z29 rfl (u29.here _ rfl) ((u29.past 37 rfl).trans (u28.here _ rfl)) hb29 (Try.sizeOf178 _) rfl rfl (by decide) (Nat.le_of_ble_eq_true rfl) rfl rfl ?_; intro w36 a36 t36 u36 z36
    have d37 := (u36.defs.trans (u29.defs.trans (u28.defs.trans (u27.defs.trans (u26.defs.trans d14)))))
    refine seq_end ?_
    refine then_norm ?_
    refine wp_seq_k fun K38 hK38 => ?_
    rcases hq43 : S (f, g) with _ | q43
    · skip
      have s44_4 := ((u36.past 4 rfl).trans ((u29.past 4 rfl).trans ((u28.past 4 rfl).trans ((u27.past 4 rfl).trans ((u26.past 4 rfl).trans ((q14 4 rfl).trans ((u11.past 4 rfl).trans ((u10.past 4 rfl).trans ((u9.past 4 rfl).trans ((u8.past 4 rfl).trans ((u7.past 4 rfl).trans ((u6.past 4 rfl).trans ((u5.past 4 rfl).trans ((u4.past 4 rfl).trans ((u3.past 4 rfl).trans ((q1 4 rfl).trans s0_4))))))))))))))))
      have s45_14 : a29.eval (.tmp 14) = .pointer (some ⟨b29, 0, none⟩) := (u29.here _ rfl)
      have s46_14 := ((u36.past 14 rfl).trans s45_14)
      have HS_47 := (MapF.same (MapF.keep HS_31 t29) (t36.touch.block _ (MapF.lt (MapF.keep HS_31 t29)) n30_ms_b29))
      refine rgs mixed 116 [.eq (.map (some ms)), .eq (.agg #[.int .i64 f, .int .i64 g]), .eq (.tuple #[.int .i64 0, .bool false]), .eq (.tuple #[.int .i64 0, .bool false]), .eq (.int .i64 0), .eq (.bool false), .eq (.int .i64 0), .eq (.bool false)] [[(4, none)], [(14, none)], [(39, some 0), (40, some 1)], [(41, some 2)], [(38, some 3)], [(38, some 3)], [(42, some 4)], [(43, some 5)]] d37 z36 (by kernel_rfl) ⟨Ov rfl rfl fun _ _ T ⟨k4, _⟩ => ex_move (k4.trans s44_4),
        Ov rfl rfl fun _ _ T ⟨k14, _⟩ => ex_loadAgg (cs := [.int .i64 f, .int .i64 g]) (k14.trans s46_14) (Try.isAgg178 _) (Try.sizeOf178 _) (cells_of (off := 0) (Ext.keep T.ext t36.here) rfl),
        Ov rfl rfl fun _ _ T ⟨k39, k40, _⟩ => (ex_look_ok (xk := (f, g)) (MapF.keep HS_47 T.ext) pairK Try.underlying195 (zv_3 _) k39 k40).trans (by rw [hq43]; rfl),
        Ov rfl rfl fun _ _ T ⟨k41, _⟩ => ex_move k41,
        Ov rfl rfl fun _ _ T ⟨k38, _⟩ => ex_extract k38 rfl,
        Ov rfl rfl fun _ _ T ⟨k38, _⟩ => ex_extract k38 rfl,
        Ov rfl rfl fun _ _ T ⟨k42, _⟩ => ex_assign k42,
        Ov rfl rfl fun _ _ T ⟨k43, _⟩ => ex_assign k43,
        trivial⟩ ?_
      intro a48 w48 d48 z48 t48 e48 q48
      have s49_16 : a48.eval (.tmp 16) = .bool false := e48.2.2.2.2.2.2.2.1
      refine rgs mixed 116 [.eq (.bool false)] [[(16, none)]] d48 z48 (by kernel_rfl) ⟨Ov rfl rfl fun _ _ T ⟨k16, _⟩ => ex_move (k16.trans s49_16), trivial⟩ ?_
      intro a50 w50 d50 z50 t50 e50 q50
      have s51_44 : a50.eval (.tmp 44) = .bool false := e50.1
      refine wp_cond_false s51_44 ?_
      refine wp_skip ?_
      repeat (with_reducible refine block_norm ?_)
      refine hK38 _ _ ?_
      have H_52 := (ArenaAt.keep (ArenaAt.keep (ArenaAt.turn (ArenaAt.keep H_33 t29) t36 o32) t48) t50)
      obtain ⟨bm53, row53, cap53, hb53, ho53, ⟨nQ53, hm53⟩, eF53⟩ := (H_52).ex
      have pf := part_ok hW hf (k := lv) (by omega) (by have := short_no hW hf hg y15; omega)
      have pg := part_ok hW hg (k := lv) (by omega) (by have := short_no hW hf hg y15; omega)
      have h104 : lv < 104 := by have := short_no hW hf hg y15; omega
      have s54_0 := ((q50 0 rfl).trans ((q48 0 rfl).trans ((u36.past 0 rfl).trans ((u29.past 0 rfl).trans ((u28.past 0 rfl).trans ((u27.past 0 rfl).trans ((u26.past 0 rfl).trans ((q14 0 rfl).trans ((u11.past 0 rfl).trans ((u10.past 0 rfl).trans ((u9.past 0 rfl).trans ((u8.past 0 rfl).trans ((u7.past 0 rfl).trans ((u6.past 0 rfl).trans ((u5.past 0 rfl).trans ((u4.past 0 rfl).trans ((u3.past 0 rfl).trans ((q1 0 rfl).trans s0_0))))))))))))))))))
      have s55_2 := ((q50 2 rfl).trans ((q48 2 rfl).trans ((u36.past 2 rfl).trans ((u29.past 2 rfl).trans ((u28.past 2 rfl).trans ((u27.past 2 rfl).trans ((u26.past 2 rfl).trans ((q14 2 rfl).trans ((u11.past 2 rfl).trans ((u10.past 2 rfl).trans ((u9.past 2 rfl).trans ((u8.past 2 rfl).trans ((u7.past 2 rfl).trans ((u6.past 2 rfl).trans ((u5.past 2 rfl).trans ((u4.past 2 rfl).trans ((u3.past 2 rfl).trans ((q1 2 rfl).trans s0_2))))))))))))))))))
      have s56_3 := ((q50 3 rfl).trans ((q48 3 rfl).trans ((u36.past 3 rfl).trans ((u29.past 3 rfl).trans ((u28.past 3 rfl).trans ((u27.past 3 rfl).trans ((u26.past 3 rfl).trans ((q14 3 rfl).trans ((u11.past 3 rfl).trans ((u10.past 3 rfl).trans ((u9.past 3 rfl).trans ((u8.past 3 rfl).trans ((u7.past 3 rfl).trans ((u6.past 3 rfl).trans ((u5.past 3 rfl).trans ((u4.past 3 rfl).trans ((u3.past 3 rfl).trans ((q1 3 rfl).trans s0_3))))))))))))))))))
      refine rgs mixed 116 [.eq (.pointer (some ⟨b, 0, none⟩)), .eq (.pointer (some ⟨b, 0, none⟩)), .eq (.pointer (some ⟨b, 0, none⟩)), .eq (.slice (some ⟨row53, 0, none⟩) A.length cap53), .eq (.int .i64 f), .eq (.pointer (some ⟨row53, Int.toNat f * 3, none⟩)), .eq (.pointer (some ⟨row53, Int.toNat f * 3, none⟩)), .eq (.int .i64 ((at_ A n0 f).1)), .eq (.pointer (some ⟨b, 0, none⟩)), .eq (.pointer (some ⟨b, 0, none⟩)), .eq (.pointer (some ⟨b, 0, none⟩)), .eq (.slice (some ⟨row53, 0, none⟩) A.length cap53), .eq (.int .i64 g), .eq (.pointer (some ⟨row53, Int.toNat g * 3, none⟩)), .eq (.pointer (some ⟨row53, Int.toNat g * 3, none⟩)), .eq (.int .i64 ((at_ A n0 g).1)), .eq (.int .i64 lv), .eq (.int .i64 lv)] [[(0, none)], [(46, some 0)], [(47, some 1)], [(48, some 2)], [(2, none)], [(49, some 3), (50, some 4)], [(51, some 5)], [(52, some 6)], [(0, none)], [(54, some 8)], [(55, some 9)], [(56, some 10)], [(3, none)], [(57, some 11), (58, some 12)], [(59, some 13)], [(60, some 14)], [(53, some 7), (61, some 15)], [(62, some 16)]] d50 z50 (by kernel_rfl) ⟨Ov rfl rfl fun _ _ T ⟨k0, _⟩ => ex_move (k0.trans s54_0),
        Ov rfl rfl fun _ _ T ⟨k46, _⟩ => ex_nilCheck k46,
        Ov rfl rfl fun _ _ T ⟨k47, _⟩ => ex_fieldAddr k47 (fa_123_0 _ _ _),
        Ov rfl rfl fun _ _ T ⟨k48, _⟩ => ex_load k48 (Try.isAgg120 _) (cell_of (Ext.keep T.ext hb53) rfl),
        Ov rfl rfl fun _ _ T ⟨k2, _⟩ => ex_move (k2.trans s55_2),
        Ov rfl rfl fun _ _ T ⟨k49, k50, _⟩ => ex_ixa Try.underlying120 (Try.sizeOf119 _) k49 rfl k50 (by omega) (by omega),
        Ov rfl rfl fun _ _ T ⟨k51, _⟩ => ex_fieldAddr k51 (fa_119_0 _ _ _),
        Ov rfl rfl fun _ _ T ⟨k52, _⟩ => ex_load k52 (Try.isAgg3 _) (own_at (own_keep ho53 T.ext) rfl nvs3 (at_some' (d := n0) (by rfl) (by omega) (by omega)) 0 rfl),
        Ov rfl rfl fun _ _ T ⟨k0, _⟩ => ex_move (k0.trans s54_0),
        Ov rfl rfl fun _ _ T ⟨k54, _⟩ => ex_nilCheck k54,
        Ov rfl rfl fun _ _ T ⟨k55, _⟩ => ex_fieldAddr k55 (fa_123_0 _ _ _),
        Ov rfl rfl fun _ _ T ⟨k56, _⟩ => ex_load k56 (Try.isAgg120 _) (cell_of (Ext.keep T.ext hb53) rfl),
        Ov rfl rfl fun _ _ T ⟨k3, _⟩ => ex_move (k3.trans s56_3),
        Ov rfl rfl fun _ _ T ⟨k57, k58, _⟩ => ex_ixa Try.underlying120 (Try.sizeOf119 _) k57 rfl k58 (by omega) (by omega),
        Ov rfl rfl fun _ _ T ⟨k59, _⟩ => ex_fieldAddr k59 (fa_119_0 _ _ _),
        Ov rfl rfl fun _ _ T ⟨k60, _⟩ => ex_load k60 (Try.isAgg3 _) (own_at (own_keep ho53 T.ext) rfl nvs3 (at_some' (d := n0) (by rfl) (by omega) (by omega)) 0 rfl),
        Ov rfl rfl fun _ _ T ⟨k53, k61, _⟩ => (ex_min (cons_ops k53 (cons_ops k61 nil_ops))).trans (by rw [hlv]),
        Ov rfl rfl fun _ _ T ⟨k62, _⟩ => ex_assign k62,
        trivial⟩ ?_
      intro a57 w57 d57 z57 t57 e57 q57
      refine wp_seq ?_
      refine seq_begin ?_
      refine sp z57 rfl rfl (ex_move ((q57 0 rfl).trans s54_0)) ?_; intro a58 u58 z58
      refine sp z58 rfl rfl (ex_move ((u58.past 2 rfl).trans ((q57 2 rfl).trans s55_2))) ?_; intro a59 u59 z59
      refine sp z59 rfl rfl (ex_move ((u59.past 17 rfl).trans ((u58.past 17 rfl).trans e57.2.2.2.2.2.2.2.2.2.2.2.2.2.2.2.2.2.1))) ?_; intro a60 u60 z60
      have H_62 := (ArenaAt.keep H_52 t57)
      refine scx z60 rfl rfl (exl_call Try.func132 rfl rfl (cons_ops ((u60.past 64 rfl).trans ((u59.past 64 rfl).trans (u58.here _ rfl))) (cons_ops ((u60.past 65 rfl).trans (u59.here _ rfl)) (cons_ops (u60.here _ rfl) nil_ops)))) (c_parts H_62 _ _ (by omega)) ?_; intro w61 a61 t61 u61 z61
      refine sp z61 rfl rfl (ex_move (u61.here _ rfl)) ?_; intro a63 u63 z63
      refine sp z63 rfl rfl (ex_extract (u63.here _ rfl) rfl) ?_; intro a64 u64 z64
      refine sp z64 rfl rfl (ex_extract ((u64.past 63 rfl).trans (u63.here _ rfl)) rfl) ?_; intro a65 u65 z65
      refine sp z65 rfl rfl (ex_assign ((u65.past 68 rfl).trans (u64.here _ rfl))) ?_; intro a66 u66 z66
      refine sp z66 rfl rfl (ex_assign ((u66.past 69 rfl).trans (u65.here _ rfl))) ?_; intro a67 u67 z67
      have d68 := (u67.defs.trans (u66.defs.trans (u65.defs.trans (u64.defs.trans (u63.defs.trans (u61.defs.trans (u60.defs.trans (u59.defs.trans (u58.defs.trans d57)))))))))
      refine seq_end ?_
      refine then_norm ?_
      refine wp_seq ?_
      refine seq_begin ?_
      refine sp z67 rfl rfl (ex_move ((u67.past 0 rfl).trans ((u66.past 0 rfl).trans ((u65.past 0 rfl).trans ((u64.past 0 rfl).trans ((u63.past 0 rfl).trans ((u61.past 0 rfl).trans ((u60.past 0 rfl).trans ((u59.past 0 rfl).trans ((u58.past 0 rfl).trans ((q57 0 rfl).trans s54_0))))))))))) ?_; intro a69 u69 z69
      refine sp z69 rfl rfl (ex_move ((u69.past 3 rfl).trans ((u67.past 3 rfl).trans ((u66.past 3 rfl).trans ((u65.past 3 rfl).trans ((u64.past 3 rfl).trans ((u63.past 3 rfl).trans ((u61.past 3 rfl).trans ((u60.past 3 rfl).trans ((u59.past 3 rfl).trans ((u58.past 3 rfl).trans ((q57 3 rfl).trans s56_3)))))))))))) ?_; intro a70 u70 z70
      refine sp z70 rfl rfl (ex_move ((u70.past 17 rfl).trans ((u69.past 17 rfl).trans ((u67.past 17 rfl).trans ((u66.past 17 rfl).trans ((u65.past 17 rfl).trans ((u64.past 17 rfl).trans ((u63.past 17 rfl).trans ((u61.past 17 rfl).trans ((u60.past 17 rfl).trans ((u59.past 17 rfl).trans ((u58.past 17 rfl).trans e57.2.2.2.2.2.2.2.2.2.2.2.2.2.2.2.2.2.1)))))))))))) ?_; intro a71 u71 z71
      have H_73 := (ArenaAt.keep H_62 t61)
      refine scx z71 rfl rfl (exl_call Try.func132 rfl rfl (cons_ops ((u71.past 71 rfl).trans ((u70.past 71 rfl).trans (u69.here _ rfl))) (cons_ops ((u71.past 72 rfl).trans (u70.here _ rfl)) (cons_ops (u71.here _ rfl) nil_ops)))) (c_parts H_73 _ _ (by omega)) ?_; intro w72 a72 t72 u72 z72
      refine sp z72 rfl rfl (ex_move (u72.here _ rfl)) ?_; intro a74 u74 z74
      refine sp z74 rfl rfl (ex_extract (u74.here _ rfl) rfl) ?_; intro a75 u75 z75
      refine sp z75 rfl rfl (ex_extract ((u75.past 70 rfl).trans (u74.here _ rfl)) rfl) ?_; intro a76 u76 z76
      refine sp z76 rfl rfl (ex_assign ((u76.past 75 rfl).trans (u75.here _ rfl))) ?_; intro a77 u77 z77
      refine sp z77 rfl rfl (ex_assign ((u77.past 76 rfl).trans (u76.here _ rfl))) ?_; intro a78 u78 z78
      have d79 := (u78.defs.trans (u77.defs.trans (u76.defs.trans (u75.defs.trans (u74.defs.trans (u72.defs.trans (u71.defs.trans (u70.defs.trans (u69.defs.trans d68)))))))))
      refine seq_end ?_
      refine then_norm ?_
      refine wp_seq ?_
      refine seq_begin ?_
      refine sp z78 rfl rfl (ex_move ((u78.past 0 rfl).trans ((u77.past 0 rfl).trans ((u76.past 0 rfl).trans ((u75.past 0 rfl).trans ((u74.past 0 rfl).trans ((u72.past 0 rfl).trans ((u71.past 0 rfl).trans ((u70.past 0 rfl).trans ((u69.past 0 rfl).trans ((u67.past 0 rfl).trans ((u66.past 0 rfl).trans ((u65.past 0 rfl).trans ((u64.past 0 rfl).trans ((u63.past 0 rfl).trans ((u61.past 0 rfl).trans ((u60.past 0 rfl).trans ((u59.past 0 rfl).trans ((u58.past 0 rfl).trans ((q57 0 rfl).trans s54_0)))))))))))))))))))) ?_; intro a80 u80 z80
      refine sp z80 rfl rfl (ex_move ((u80.past 1 rfl).trans ((u78.past 1 rfl).trans ((u77.past 1 rfl).trans ((u76.past 1 rfl).trans ((u75.past 1 rfl).trans ((u74.past 1 rfl).trans ((u72.past 1 rfl).trans ((u71.past 1 rfl).trans ((u70.past 1 rfl).trans ((u69.past 1 rfl).trans ((u67.past 1 rfl).trans ((u66.past 1 rfl).trans ((u65.past 1 rfl).trans ((u64.past 1 rfl).trans ((u63.past 1 rfl).trans ((u61.past 1 rfl).trans ((u60.past 1 rfl).trans ((u59.past 1 rfl).trans ((u58.past 1 rfl).trans ((q57 1 rfl).trans ((q50 1 rfl).trans ((q48 1 rfl).trans ((u36.past 1 rfl).trans ((u29.past 1 rfl).trans ((u28.past 1 rfl).trans ((u27.past 1 rfl).trans ((u26.past 1 rfl).trans ((q14 1 rfl).trans ((u11.past 1 rfl).trans ((u10.past 1 rfl).trans ((u9.past 1 rfl).trans ((u8.past 1 rfl).trans ((u7.past 1 rfl).trans ((u6.past 1 rfl).trans ((u5.past 1 rfl).trans ((u4.past 1 rfl).trans ((u3.past 1 rfl).trans ((q1 1 rfl).trans s0_1))))))))))))))))))))))))))))))))))))))) ?_; intro a81 u81 z81
      refine sp z81 rfl rfl (ex_move ((u81.past 18 rfl).trans ((u80.past 18 rfl).trans ((u78.past 18 rfl).trans ((u77.past 18 rfl).trans ((u76.past 18 rfl).trans ((u75.past 18 rfl).trans ((u74.past 18 rfl).trans ((u72.past 18 rfl).trans ((u71.past 18 rfl).trans ((u70.past 18 rfl).trans ((u69.past 18 rfl).trans ((u67.past 18 rfl).trans (u66.here _ rfl)))))))))))))) ?_; intro a82 u82 z82
      refine sp z82 rfl rfl (ex_move ((u82.past 20 rfl).trans ((u81.past 20 rfl).trans ((u80.past 20 rfl).trans ((u78.past 20 rfl).trans (u77.here _ rfl)))))) ?_; intro a83 u83 z83
      refine sp z83 rfl rfl (ex_move ((u83.past 4 rfl).trans ((u82.past 4 rfl).trans ((u81.past 4 rfl).trans ((u80.past 4 rfl).trans ((u78.past 4 rfl).trans ((u77.past 4 rfl).trans ((u76.past 4 rfl).trans ((u75.past 4 rfl).trans ((u74.past 4 rfl).trans ((u72.past 4 rfl).trans ((u71.past 4 rfl).trans ((u70.past 4 rfl).trans ((u69.past 4 rfl).trans ((u67.past 4 rfl).trans ((u66.past 4 rfl).trans ((u65.past 4 rfl).trans ((u64.past 4 rfl).trans ((u63.past 4 rfl).trans ((u61.past 4 rfl).trans ((u60.past 4 rfl).trans ((u59.past 4 rfl).trans ((u58.past 4 rfl).trans ((q57 4 rfl).trans ((q50 4 rfl).trans ((q48 4 rfl).trans s44_4)))))))))))))))))))))))))) ?_; intro a84 u84 z84
      have H_86 := (ArenaAt.keep H_73 t72)
      have HS_87 := (MapF.keep (MapF.keep (MapF.keep (MapF.keep (MapF.keep HS_47 t48) t50) t57) t61) t72)
      refine sc z84 rfl rfl (exl_call Try.func106 rfl rfl (cons_ops ((u84.past 78 rfl).trans ((u83.past 78 rfl).trans ((u82.past 78 rfl).trans ((u81.past 78 rfl).trans (u80.here _ rfl))))) (cons_ops ((u84.past 79 rfl).trans ((u83.past 79 rfl).trans ((u82.past 79 rfl).trans (u81.here _ rfl)))) (cons_ops ((u84.past 80 rfl).trans ((u83.past 80 rfl).trans (u82.here _ rfl))) (cons_ops ((u84.past 81 rfl).trans (u83.here _ rfl)) (cons_ops (u84.here _ rfl) nil_ops)))))) (ih H_86 HS_87 hout kind (partF A f lv).1 (partF A g lv).1 hk hW hm hm2 hS pf.1 pg.1 (by have := pf.2.2.1; have := pg.2.2.1; omega)) ?_
      rintro e85 w85 ⟨Fp85, A85, r85, c85, S85, n85, he85, J85⟩; refine ⟨_, he85, ?_⟩; intro a85 u85 z85
      have o88 : ¬ (Fj ms Fp) b29 := fun hQ => hQ.elim (Ne.symm n30_ms_b29) o32
      have i89 := fun jQ (hQ : (Fj ms Fp) jQ) => (hQ.elim (fun eQ => by rw [eQ]; exact (Or.inl (Or.inl rfl))) ((fun jQ hQ => Or.inl (Or.inr hQ)) jQ) : (Fj ms Fp) jQ ∨ w.heap.size ≤ jQ)
      have t36.here_90 := (Ext.keep t72 (Ext.keep t61 (Ext.keep t57 (Ext.keep t50 (Ext.keep t48 t36.here)))))
      have o91 := Mut.out J85.mt (lt_of t36.here_90) o88
      have x92 := (Touch.trans (Touch.trans (Touch.trans (Touch.trans (Touch.trans (Touch.turn (Touch.trans x35 (Ext.touch t29)) t36 (Or.inr yb29_34)) (Ext.touch t48)) (Ext.touch t50)) (Ext.touch t57)) (Ext.touch t61)) (Ext.touch t72))
      have i93 := Mut.inF J85.mt x92 i89
      refine sp z85 rfl rfl (ex_move (u85.here _ rfl)) ?_; intro a94 u94 z94
      refine sp z94 rfl rfl (ex_extract (u94.here _ rfl) rfl) ?_; intro a95 u95 z95
      refine sp z95 rfl rfl (ex_extract ((u95.past 77 rfl).trans (u94.here _ rfl)) rfl) ?_; intro a96 u96 z96
      refine sp z96 rfl rfl (ex_assign ((u96.past 84 rfl).trans (u95.here _ rfl))) ?_; intro a97 u97 z97
      refine sp z97 rfl rfl (ex_assign ((u97.past 85 rfl).trans (u96.here _ rfl))) ?_; intro a98 u98 z98
      have d99 := (u98.defs.trans (u97.defs.trans (u96.defs.trans (u95.defs.trans (u94.defs.trans (u85.defs.trans (u84.defs.trans (u83.defs.trans (u82.defs.trans (u81.defs.trans (u80.defs.trans d79)))))))))))
      refine seq_end ?_
      refine then_norm ?_
      refine wp_seq_k fun K100 hK100 => ?_
      have s101_23 : a98.eval (.tmp 23) = .int .i64 c85 := (u98.here _ rfl)
      refine rgs mixed 116 [.eq (.int .i64 c85), .eq (.bool (decide (c85 ≠ 0)))] [[(23, none)], [(86, some 0)]] d99 z98 (by kernel_rfl) ⟨Ov rfl rfl fun _ _ T ⟨k23, _⟩ => ex_move (k23.trans s101_23), Ov rfl rfl fun _ _ T ⟨k86, _⟩ => ex_neq k86 rfl, trivial⟩ ?_
      intro a102 w102 d102 z102 t102 e102 q102
      by_cases c103 : c85 ≠ 0
      · have y103 := decide_eq_true c103
        have s104_87 : a102.eval (.tmp 87) = .bool (decide (c85 ≠ 0)) := e102.2.1
        refine wp_cond_true (s104_87.trans (by rw [y103])) ?_
        have s105_23 := ((q102 23 rfl).trans s101_23)
        refine rgs mixed 116 [.eq (.int .i64 c85), .eq (.int .i64 0), .eq (.int .i64 c85)] [[(23, none)], [], [(88, some 0)]] d102 z102 (by kernel_rfl) ⟨Ov rfl rfl fun _ _ T ⟨k23, _⟩ => ex_move (k23.trans s105_23), Ov rfl rfl fun _ _ T _ => ex_assign rfl, Ov rfl rfl fun _ _ T ⟨k88, _⟩ => ex_assign k88, trivial⟩ ?_
        intro a106 w106 d106 z106 t106 e106 q106
        refine wp_ret ?_
        have s107_10 : a106.eval (.tmp 10) = .int .i64 0 := e106.2.1
        have s108_11 : a106.eval (.tmp 11) = .int .i64 c85 := e106.2.2.1
        repeat (first | (with_reducible refine then_ret ?_) | (with_reducible refine block_ret ?_))
        refine rett (rs := [.tmp 10, .tmp 11]) (vs := [.int .i64 0, .int .i64 c85]) Try.results106 ⟨s107_10, ⟨s108_11, trivial⟩⟩ (by simp) d106 ?_
        have x109 := (Touch.trans (Touch.trans (Touch.mut x92 J85.mt i89) (Ext.touch t102)) (Ext.touch t106))
        have J85.at__110 := (ArenaAt.keep (ArenaAt.keep J85.at_ t102) t106)
        have J85.seen_111 := (MapF.keep (MapF.keep J85.seen t102) t106)
        exact ⟨_, _, _, _, _, _, rfl, J85.at__110, J85.seen_111, J85.ok, J85.out, ⟨x109, fun jQ hQ => hQ.elim (fun eQ => .inl (.inl eQ)) ((fun jQ hQ => i93 jQ (Or.inr hQ)) jQ)⟩, J85.res.wf, J85.res.pre, J85.res.room, J85.res.ok.elim (fun hQ => absurd hQ.1 c103) .inr⟩
      · have y103 := decide_eq_false c103
        have s112_87 : a102.eval (.tmp 87) = .bool (decide (c85 ≠ 0)) := e102.2.1
        refine wp_cond_false (s112_87.trans (by rw [y103])) ?_
        refine wp_skip ?_
        repeat (with_reducible refine block_norm ?_)
        refine hK100 _ _ ?_
        refine wp_seq ?_
        refine seq_begin ?_
        refine sp z102 rfl rfl (ex_move ((q102 0 rfl).trans ((u98.past 0 rfl).trans ((u97.past 0 rfl).trans ((u96.past 0 rfl).trans ((u95.past 0 rfl).trans ((u94.past 0 rfl).trans ((u85.past 0 rfl).trans ((u84.past 0 rfl).trans ((u83.past 0 rfl).trans ((u82.past 0 rfl).trans ((u81.past 0 rfl).trans ((u80.past 0 rfl).trans ((u78.past 0 rfl).trans ((u77.past 0 rfl).trans ((u76.past 0 rfl).trans ((u75.past 0 rfl).trans ((u74.past 0 rfl).trans ((u72.past 0 rfl).trans ((u71.past 0 rfl).trans ((u70.past 0 rfl).trans ((u69.past 0 rfl).trans ((u67.past 0 rfl).trans ((u66.past 0 rfl).trans ((u65.past 0 rfl).trans ((u64.past 0 rfl).trans ((u63.past 0 rfl).trans ((u61.past 0 rfl).trans ((u60.past 0 rfl).trans ((u59.past 0 rfl).trans ((u58.past 0 rfl).trans ((q57 0 rfl).trans s54_0)))))))))))))))))))))))))))))))) ?_; intro a113 u113 z113
        refine sp z113 rfl rfl (ex_move ((u113.past 1 rfl).trans ((q102 1 rfl).trans ((u98.past 1 rfl).trans ((u97.past 1 rfl).trans ((u96.past 1 rfl).trans ((u95.past 1 rfl).trans ((u94.past 1 rfl).trans ((u85.past 1 rfl).trans ((u84.past 1 rfl).trans ((u83.past 1 rfl).trans ((u82.past 1 rfl).trans ((u81.past 1 rfl).trans ((u80.past 1 rfl).trans ((u78.past 1 rfl).trans ((u77.past 1 rfl).trans ((u76.past 1 rfl).trans ((u75.past 1 rfl).trans ((u74.past 1 rfl).trans ((u72.past 1 rfl).trans ((u71.past 1 rfl).trans ((u70.past 1 rfl).trans ((u69.past 1 rfl).trans ((u67.past 1 rfl).trans ((u66.past 1 rfl).trans ((u65.past 1 rfl).trans ((u64.past 1 rfl).trans ((u63.past 1 rfl).trans ((u61.past 1 rfl).trans ((u60.past 1 rfl).trans ((u59.past 1 rfl).trans ((u58.past 1 rfl).trans ((q57 1 rfl).trans ((q50 1 rfl).trans ((q48 1 rfl).trans ((u36.past 1 rfl).trans ((u29.past 1 rfl).trans ((u28.past 1 rfl).trans ((u27.past 1 rfl).trans ((u26.past 1 rfl).trans ((q14 1 rfl).trans ((u11.past 1 rfl).trans ((u10.past 1 rfl).trans ((u9.past 1 rfl).trans ((u8.past 1 rfl).trans ((u7.past 1 rfl).trans ((u6.past 1 rfl).trans ((u5.past 1 rfl).trans ((u4.past 1 rfl).trans ((u3.past 1 rfl).trans ((q1 1 rfl).trans s0_1))))))))))))))))))))))))))))))))))))))))))))))))))) ?_; intro a114 u114 z114
        refine sp z114 rfl rfl (ex_move ((u114.past 19 rfl).trans ((u113.past 19 rfl).trans ((q102 19 rfl).trans ((u98.past 19 rfl).trans ((u97.past 19 rfl).trans ((u96.past 19 rfl).trans ((u95.past 19 rfl).trans ((u94.past 19 rfl).trans ((u85.past 19 rfl).trans ((u84.past 19 rfl).trans ((u83.past 19 rfl).trans ((u82.past 19 rfl).trans ((u81.past 19 rfl).trans ((u80.past 19 rfl).trans ((u78.past 19 rfl).trans ((u77.past 19 rfl).trans ((u76.past 19 rfl).trans ((u75.past 19 rfl).trans ((u74.past 19 rfl).trans ((u72.past 19 rfl).trans ((u71.past 19 rfl).trans ((u70.past 19 rfl).trans ((u69.past 19 rfl).trans (u67.here _ rfl))))))))))))))))))))))))) ?_; intro a115 u115 z115
        refine sp z115 rfl rfl (ex_move ((u115.past 21 rfl).trans ((u114.past 21 rfl).trans ((u113.past 21 rfl).trans ((q102 21 rfl).trans ((u98.past 21 rfl).trans ((u97.past 21 rfl).trans ((u96.past 21 rfl).trans ((u95.past 21 rfl).trans ((u94.past 21 rfl).trans ((u85.past 21 rfl).trans ((u84.past 21 rfl).trans ((u83.past 21 rfl).trans ((u82.past 21 rfl).trans ((u81.past 21 rfl).trans ((u80.past 21 rfl).trans (u78.here _ rfl))))))))))))))))) ?_; intro a116 u116 z116
        refine sp z116 rfl rfl (ex_move ((u116.past 4 rfl).trans ((u115.past 4 rfl).trans ((u114.past 4 rfl).trans ((u113.past 4 rfl).trans ((q102 4 rfl).trans ((u98.past 4 rfl).trans ((u97.past 4 rfl).trans ((u96.past 4 rfl).trans ((u95.past 4 rfl).trans ((u94.past 4 rfl).trans ((u85.past 4 rfl).trans ((u84.past 4 rfl).trans ((u83.past 4 rfl).trans ((u82.past 4 rfl).trans ((u81.past 4 rfl).trans ((u80.past 4 rfl).trans ((u78.past 4 rfl).trans ((u77.past 4 rfl).trans ((u76.past 4 rfl).trans ((u75.past 4 rfl).trans ((u74.past 4 rfl).trans ((u72.past 4 rfl).trans ((u71.past 4 rfl).trans ((u70.past 4 rfl).trans ((u69.past 4 rfl).trans ((u67.past 4 rfl).trans ((u66.past 4 rfl).trans ((u65.past 4 rfl).trans ((u64.past 4 rfl).trans ((u63.past 4 rfl).trans ((u61.past 4 rfl).trans ((u60.past 4 rfl).trans ((u59.past 4 rfl).trans ((u58.past 4 rfl).trans ((q57 4 rfl).trans ((q50 4 rfl).trans ((q48 4 rfl).trans s44_4)))))))))))))))))))))))))))))))))))))) ?_; intro a117 u117 z117
        have J85.at__119 := (ArenaAt.keep J85.at_ t102)
        have J85.seen_120 := (MapF.keep J85.seen t102)
        refine sc z117 rfl rfl (exl_call Try.func106 rfl rfl (cons_ops ((u117.past 90 rfl).trans ((u116.past 90 rfl).trans ((u115.past 90 rfl).trans ((u114.past 90 rfl).trans (u113.here _ rfl))))) (cons_ops ((u117.past 91 rfl).trans ((u116.past 91 rfl).trans ((u115.past 91 rfl).trans (u114.here _ rfl)))) (cons_ops ((u117.past 92 rfl).trans ((u116.past 92 rfl).trans (u115.here _ rfl))) (cons_ops ((u117.past 93 rfl).trans (u116.here _ rfl)) (cons_ops (u117.here _ rfl) nil_ops)))))) (ih J85.at__119 J85.seen_120 J85.out kind (partF A f lv).2 (partF A g lv).2 hk J85.res.wf J85.res.room hm2 J85.ok (ok_pre J85.res.pre pf.2.1) (ok_pre J85.res.pre pg.2.1) (by have e1 := nd_pre J85.res.pre pf.2.1; have e2 := nd_pre J85.res.pre pg.2.1; rw [lev, lev, e1, e2]; have := pf.2.2.2.1; have := pg.2.2.2.1; simp only [lev] at *; omega)) ?_
        rintro e118 w118 ⟨Fp118, A118, r118, c118, S118, n118, he118, J118⟩; refine ⟨_, he118, ?_⟩; intro a118 u118 z118
        have o121 : ¬ (Fj ms Fp85) b29 := fun hQ => hQ.elim (Ne.symm n30_ms_b29) (fun hQ => o91 (Or.inr hQ))
        have i122 := fun jQ (hQ : (Fj ms Fp85) jQ) => (hQ.elim (fun eQ => by rw [eQ]; exact (Or.inl (Or.inl rfl))) ((fun jQ hQ => i93 jQ (Or.inr hQ)) jQ) : (Fj ms Fp) jQ ∨ w.heap.size ≤ jQ)
        have t36.here_123 := (Ext.keep t102 (Mut.keep J85.mt t36.here_90 o88))
        have o124 := Mut.out J118.mt (lt_of t36.here_123) o121
        have x125 := (Touch.trans (Touch.mut x92 J85.mt i89) (Ext.touch t102))
        have i126 := Mut.inF J118.mt x125 i122
        refine sp z118 rfl rfl (ex_move (u118.here _ rfl)) ?_; intro a127 u127 z127
        refine sp z127 rfl rfl (ex_extract (u127.here _ rfl) rfl) ?_; intro a128 u128 z128
        refine sp z128 rfl rfl (ex_extract ((u128.past 89 rfl).trans (u127.here _ rfl)) rfl) ?_; intro a129 u129 z129
        refine sp z129 rfl rfl (ex_assign ((u129.past 96 rfl).trans (u128.here _ rfl))) ?_; intro a130 u130 z130
        refine sp z130 rfl rfl (ex_assign ((u130.past 97 rfl).trans (u129.here _ rfl))) ?_; intro a131 u131 z131
        have d132 := (u131.defs.trans (u130.defs.trans (u129.defs.trans (u128.defs.trans (u127.defs.trans (u118.defs.trans (u117.defs.trans (u116.defs.trans (u115.defs.trans (u114.defs.trans (u113.defs.trans d102)))))))))))
        refine seq_end ?_
        refine then_norm ?_
        refine wp_seq_k fun K133 hK133 => ?_
        have s134_23 : a131.eval (.tmp 23) = .int .i64 c118 := (u131.here _ rfl)
        refine rgs mixed 116 [.eq (.int .i64 c118), .eq (.bool (decide (c118 ≠ 0)))] [[(23, none)], [(98, some 0)]] d132 z131 (by kernel_rfl) ⟨Ov rfl rfl fun _ _ T ⟨k23, _⟩ => ex_move (k23.trans s134_23), Ov rfl rfl fun _ _ T ⟨k98, _⟩ => ex_neq k98 rfl, trivial⟩ ?_
        intro a135 w135 d135 z135 t135 e135 q135
        by_cases c136 : c118 ≠ 0
        · have y136 := decide_eq_true c136
          have s137_99 : a135.eval (.tmp 99) = .bool (decide (c118 ≠ 0)) := e135.2.1
          refine wp_cond_true (s137_99.trans (by rw [y136])) ?_
          have s138_23 := ((q135 23 rfl).trans s134_23)
          refine rgs mixed 116 [.eq (.int .i64 c118), .eq (.int .i64 0), .eq (.int .i64 c118)] [[(23, none)], [], [(100, some 0)]] d135 z135 (by kernel_rfl) ⟨Ov rfl rfl fun _ _ T ⟨k23, _⟩ => ex_move (k23.trans s138_23), Ov rfl rfl fun _ _ T _ => ex_assign rfl, Ov rfl rfl fun _ _ T ⟨k100, _⟩ => ex_assign k100, trivial⟩ ?_
          intro a139 w139 d139 z139 t139 e139 q139
          refine wp_ret ?_
          have s140_10 : a139.eval (.tmp 10) = .int .i64 0 := e139.2.1
          have s141_11 : a139.eval (.tmp 11) = .int .i64 c118 := e139.2.2.1
          repeat (first | (with_reducible refine then_ret ?_) | (with_reducible refine block_ret ?_))
          refine rett (rs := [.tmp 10, .tmp 11]) (vs := [.int .i64 0, .int .i64 c118]) Try.results106 ⟨s140_10, ⟨s141_11, trivial⟩⟩ (by simp) d139 ?_
          have x142 := (Touch.trans (Touch.trans (Touch.mut x125 J118.mt i122) (Ext.touch t135)) (Ext.touch t139))
          have J118.at__143 := (ArenaAt.keep (ArenaAt.keep J118.at_ t135) t139)
          have J118.seen_144 := (MapF.keep (MapF.keep J118.seen t135) t139)
          exact ⟨_, _, _, _, _, _, rfl, J118.at__143, J118.seen_144, J118.ok, J118.out, ⟨x142, fun jQ hQ => hQ.elim (fun eQ => .inl (.inl eQ)) ((fun jQ hQ => i126 jQ (Or.inr hQ)) jQ)⟩, J118.res.wf, (J85.res.pre.trans J118.res.pre), J118.res.room, J118.res.ok.elim (fun hQ => absurd hQ.1 c136) .inr⟩
        · have y136 := decide_eq_false c136
          have s145_99 : a135.eval (.tmp 99) = .bool (decide (c118 ≠ 0)) := e135.2.1
          refine wp_cond_false (s145_99.trans (by rw [y136])) ?_
          refine wp_skip ?_
          repeat (with_reducible refine block_norm ?_)
          refine hK133 _ _ ?_
          refine wp_seq ?_
          refine seq_begin ?_
          refine sp z135 rfl rfl (ex_move ((q135 0 rfl).trans ((u131.past 0 rfl).trans ((u130.past 0 rfl).trans ((u129.past 0 rfl).trans ((u128.past 0 rfl).trans ((u127.past 0 rfl).trans ((u118.past 0 rfl).trans ((u117.past 0 rfl).trans ((u116.past 0 rfl).trans ((u115.past 0 rfl).trans ((u114.past 0 rfl).trans ((u113.past 0 rfl).trans ((q102 0 rfl).trans ((u98.past 0 rfl).trans ((u97.past 0 rfl).trans ((u96.past 0 rfl).trans ((u95.past 0 rfl).trans ((u94.past 0 rfl).trans ((u85.past 0 rfl).trans ((u84.past 0 rfl).trans ((u83.past 0 rfl).trans ((u82.past 0 rfl).trans ((u81.past 0 rfl).trans ((u80.past 0 rfl).trans ((u78.past 0 rfl).trans ((u77.past 0 rfl).trans ((u76.past 0 rfl).trans ((u75.past 0 rfl).trans ((u74.past 0 rfl).trans ((u72.past 0 rfl).trans ((u71.past 0 rfl).trans ((u70.past 0 rfl).trans ((u69.past 0 rfl).trans ((u67.past 0 rfl).trans ((u66.past 0 rfl).trans ((u65.past 0 rfl).trans ((u64.past 0 rfl).trans ((u63.past 0 rfl).trans ((u61.past 0 rfl).trans ((u60.past 0 rfl).trans ((u59.past 0 rfl).trans ((u58.past 0 rfl).trans ((q57 0 rfl).trans s54_0)))))))))))))))))))))))))))))))))))))))))))) ?_; intro a146 u146 z146
          refine sp z146 rfl rfl (ex_move ((u146.past 17 rfl).trans ((q135 17 rfl).trans ((u131.past 17 rfl).trans ((u130.past 17 rfl).trans ((u129.past 17 rfl).trans ((u128.past 17 rfl).trans ((u127.past 17 rfl).trans ((u118.past 17 rfl).trans ((u117.past 17 rfl).trans ((u116.past 17 rfl).trans ((u115.past 17 rfl).trans ((u114.past 17 rfl).trans ((u113.past 17 rfl).trans ((q102 17 rfl).trans ((u98.past 17 rfl).trans ((u97.past 17 rfl).trans ((u96.past 17 rfl).trans ((u95.past 17 rfl).trans ((u94.past 17 rfl).trans ((u85.past 17 rfl).trans ((u84.past 17 rfl).trans ((u83.past 17 rfl).trans ((u82.past 17 rfl).trans ((u81.past 17 rfl).trans ((u80.past 17 rfl).trans ((u78.past 17 rfl).trans ((u77.past 17 rfl).trans ((u76.past 17 rfl).trans ((u75.past 17 rfl).trans ((u74.past 17 rfl).trans ((u72.past 17 rfl).trans ((u71.past 17 rfl).trans ((u70.past 17 rfl).trans ((u69.past 17 rfl).trans ((u67.past 17 rfl).trans ((u66.past 17 rfl).trans ((u65.past 17 rfl).trans ((u64.past 17 rfl).trans ((u63.past 17 rfl).trans ((u61.past 17 rfl).trans ((u60.past 17 rfl).trans ((u59.past 17 rfl).trans ((u58.past 17 rfl).trans e57.2.2.2.2.2.2.2.2.2.2.2.2.2.2.2.2.2.1)))))))))))))))))))))))))))))))))))))))))))) ?_; intro a147 u147 z147
          refine sp z147 rfl rfl (ex_move ((u147.past 22 rfl).trans ((u146.past 22 rfl).trans ((q135 22 rfl).trans ((u131.past 22 rfl).trans ((u130.past 22 rfl).trans ((u129.past 22 rfl).trans ((u128.past 22 rfl).trans ((u127.past 22 rfl).trans ((u118.past 22 rfl).trans ((u117.past 22 rfl).trans ((u116.past 22 rfl).trans ((u115.past 22 rfl).trans ((u114.past 22 rfl).trans ((u113.past 22 rfl).trans ((q102 22 rfl).trans ((u98.past 22 rfl).trans (u97.here _ rfl)))))))))))))))))) ?_; intro a148 u148 z148
          refine sp z148 rfl rfl (ex_move ((u148.past 24 rfl).trans ((u147.past 24 rfl).trans ((u146.past 24 rfl).trans ((q135 24 rfl).trans ((u131.past 24 rfl).trans (u130.here _ rfl))))))) ?_; intro a149 u149 z149
          have J118.at__151 := (ArenaAt.keep J118.at_ t135)
          have len2 := J118.res.wf.len
          have roomm := J118.res.room
          have g1 := J85.res.ok.elim (fun hQ => hQ.2) (fun hQ => absurd hQ (by have := c103; omega))
          have g2 := J118.res.ok.elim (fun hQ => hQ.2) (fun hQ => absurd hQ (by have := c136; omega))
          have RM := join_fin (most := most) hW hf hg hlv' h104 J85.res.wf J85.res.pre g1 J118.res.wf J118.res.pre J118.res.room g2
          refine sc z149 rfl rfl (exl_call Try.func102 rfl rfl (cons_ops ((u149.past 102 rfl).trans ((u148.past 102 rfl).trans ((u147.past 102 rfl).trans (u146.here _ rfl)))) (cons_ops ((u149.past 103 rfl).trans ((u148.past 103 rfl).trans (u147.here _ rfl))) (cons_ops ((u149.past 104 rfl).trans (u148.here _ rfl)) (cons_ops (u149.here _ rfl) nil_ops))))) (c_mk J118.at__151 _ _ _ (by omega) (by omega)) ?_
          rintro e150 w150 ⟨Fp150, he150, H150, m150⟩; refine ⟨_, he150, ?_⟩; intro a150 u150 z150
          have t36.here_152 := (Ext.keep t135 (Mut.keep J118.mt t36.here_123 o121))
          have o153 := Mut.out m150 (lt_of t36.here_152) (fun hQ => o124 (Or.inr hQ))
          have J118.seen_154 := (MapF.keep J118.seen t135)
          have o155 := Mut.out m150 (MapF.lt J118.seen_154) J118.out
          have x156 := (Touch.trans (Touch.mut x125 J118.mt i122) (Ext.touch t135))
          have i157 := Mut.inF m150 x156 (fun jQ hQ => i126 jQ (Or.inr hQ))
          refine sp z150 rfl rfl (ex_move (u150.here _ rfl)) ?_; intro a158 u158 z158
          refine sp z158 rfl rfl (ex_extract (u158.here _ rfl) rfl) ?_; intro a159 u159 z159
          refine sp z159 rfl rfl (ex_extract ((u159.past 101 rfl).trans (u158.here _ rfl)) rfl) ?_; intro a160 u160 z160
          refine sp z160 rfl rfl (ex_assign ((u160.past 107 rfl).trans (u159.here _ rfl))) ?_; intro a161 u161 z161
          refine sp z161 rfl rfl (ex_assign ((u161.past 108 rfl).trans (u160.here _ rfl))) ?_; intro a162 u162 z162
          have d163 := (u162.defs.trans (u161.defs.trans (u160.defs.trans (u159.defs.trans (u158.defs.trans (u150.defs.trans (u149.defs.trans (u148.defs.trans (u147.defs.trans (u146.defs.trans d135))))))))))
          refine seq_end ?_
          refine then_norm ?_
          refine wp_seq_k fun K164 hK164 => ?_
          have s165_23 : a162.eval (.tmp 23) = .int .i64 ((mkF A118 most (lv, r85, r118)).2.2) := (u162.here _ rfl)
          refine rgs mixed 116 [.eq (.int .i64 ((mkF A118 most (lv, r85, r118)).2.2)), .eq (.bool (decide (((mkF A118 most (lv, r85, r118)).2.2) ≠ 0)))] [[(23, none)], [(109, some 0)]] d163 z162 (by kernel_rfl) ⟨Ov rfl rfl fun _ _ T ⟨k23, _⟩ => ex_move (k23.trans s165_23), Ov rfl rfl fun _ _ T ⟨k109, _⟩ => ex_neq k109 rfl, trivial⟩ ?_
          intro a166 w166 d166 z166 t166 e166 q166
          by_cases c167 : ((mkF A118 most (lv, r85, r118)).2.2) ≠ 0
          · have y167 := decide_eq_true c167
            have s168_110 : a166.eval (.tmp 110) = .bool (decide (((mkF A118 most (lv, r85, r118)).2.2) ≠ 0)) := e166.2.1
            refine wp_cond_true (s168_110.trans (by rw [y167])) ?_
            have s169_23 := ((q166 23 rfl).trans s165_23)
            refine rgs mixed 116 [.eq (.int .i64 ((mkF A118 most (lv, r85, r118)).2.2)), .eq (.int .i64 0), .eq (.int .i64 ((mkF A118 most (lv, r85, r118)).2.2))] [[(23, none)], [], [(111, some 0)]] d166 z166 (by kernel_rfl) ⟨Ov rfl rfl fun _ _ T ⟨k23, _⟩ => ex_move (k23.trans s169_23), Ov rfl rfl fun _ _ T _ => ex_assign rfl, Ov rfl rfl fun _ _ T ⟨k111, _⟩ => ex_assign k111, trivial⟩ ?_
            intro a170 w170 d170 z170 t170 e170 q170
            refine wp_ret ?_
            have s171_10 : a170.eval (.tmp 10) = .int .i64 0 := e170.2.1
            have s172_11 : a170.eval (.tmp 11) = .int .i64 ((mkF A118 most (lv, r85, r118)).2.2) := e170.2.2.1
            repeat (first | (with_reducible refine then_ret ?_) | (with_reducible refine block_ret ?_))
            refine rett (rs := [.tmp 10, .tmp 11]) (vs := [.int .i64 0, .int .i64 ((mkF A118 most (lv, r85, r118)).2.2)]) Try.results106 ⟨s171_10, ⟨s172_11, trivial⟩⟩ (by simp) d170 ?_
            have x173 := (Touch.trans (Touch.trans (Touch.mut x156 m150 (fun jQ hQ => i126 jQ (Or.inr hQ))) (Ext.touch t166)) (Ext.touch t170))
            have H150_174 := (ArenaAt.keep (ArenaAt.keep H150 t166) t170)
            have J118.seen_175 := (MapF.keep (MapF.keep (MapF.same J118.seen_154 (Mut.block m150 (MapF.lt J118.seen_154) J118.out)) t166) t170)
            exact ⟨_, _, _, _, _, _, rfl, H150_174, J118.seen_175, J118.ok.pre J118.res.wf RM.wf RM.pre, o155, ⟨x173, fun jQ hQ => hQ.elim (fun eQ => .inl (.inl eQ)) (i157 jQ)⟩, RM.wf, (J85.res.pre.trans J118.res.pre).trans RM.pre, RM.room, RM.ok.elim (fun hQ => absurd hQ.1 c167) .inr⟩
          · have y167 := decide_eq_false c167
            have s176_110 : a166.eval (.tmp 110) = .bool (decide (((mkF A118 most (lv, r85, r118)).2.2) ≠ 0)) := e166.2.1
            refine wp_cond_false (s176_110.trans (by rw [y167])) ?_
            refine wp_skip ?_
            repeat (with_reducible refine block_norm ?_)
            refine hK164 _ _ ?_
            refine wp_seq ?_
            refine seq_begin ?_
            refine sp z166 rfl rfl (ex_move ((q166 4 rfl).trans ((u162.past 4 rfl).trans ((u161.past 4 rfl).trans ((u160.past 4 rfl).trans ((u159.past 4 rfl).trans ((u158.past 4 rfl).trans ((u150.past 4 rfl).trans ((u149.past 4 rfl).trans ((u148.past 4 rfl).trans ((u147.past 4 rfl).trans ((u146.past 4 rfl).trans ((q135 4 rfl).trans ((u131.past 4 rfl).trans ((u130.past 4 rfl).trans ((u129.past 4 rfl).trans ((u128.past 4 rfl).trans ((u127.past 4 rfl).trans ((u118.past 4 rfl).trans ((u117.past 4 rfl).trans ((u116.past 4 rfl).trans ((u115.past 4 rfl).trans ((u114.past 4 rfl).trans ((u113.past 4 rfl).trans ((q102 4 rfl).trans ((u98.past 4 rfl).trans ((u97.past 4 rfl).trans ((u96.past 4 rfl).trans ((u95.past 4 rfl).trans ((u94.past 4 rfl).trans ((u85.past 4 rfl).trans ((u84.past 4 rfl).trans ((u83.past 4 rfl).trans ((u82.past 4 rfl).trans ((u81.past 4 rfl).trans ((u80.past 4 rfl).trans ((u78.past 4 rfl).trans ((u77.past 4 rfl).trans ((u76.past 4 rfl).trans ((u75.past 4 rfl).trans ((u74.past 4 rfl).trans ((u72.past 4 rfl).trans ((u71.past 4 rfl).trans ((u70.past 4 rfl).trans ((u69.past 4 rfl).trans ((u67.past 4 rfl).trans ((u66.past 4 rfl).trans ((u65.past 4 rfl).trans ((u64.past 4 rfl).trans ((u63.past 4 rfl).trans ((u61.past 4 rfl).trans ((u60.past 4 rfl).trans ((u59.past 4 rfl).trans ((u58.past 4 rfl).trans ((q57 4 rfl).trans ((q50 4 rfl).trans ((q48 4 rfl).trans s44_4))))))))))))))))))))))))))))))))))))))))))))))))))))))))) ?_; intro a177 u177 z177
            have t36.here_179 := (Ext.keep t166 (Mut.keep m150 t36.here_152 (fun hQ => o124 (Or.inr hQ))))
            refine sp z177 rfl rfl (ex_loadAgg (cs := [.int .i64 f, .int .i64 g]) ((u177.past 14 rfl).trans ((q166 14 rfl).trans ((u162.past 14 rfl).trans ((u161.past 14 rfl).trans ((u160.past 14 rfl).trans ((u159.past 14 rfl).trans ((u158.past 14 rfl).trans ((u150.past 14 rfl).trans ((u149.past 14 rfl).trans ((u148.past 14 rfl).trans ((u147.past 14 rfl).trans ((u146.past 14 rfl).trans ((q135 14 rfl).trans ((u131.past 14 rfl).trans ((u130.past 14 rfl).trans ((u129.past 14 rfl).trans ((u128.past 14 rfl).trans ((u127.past 14 rfl).trans ((u118.past 14 rfl).trans ((u117.past 14 rfl).trans ((u116.past 14 rfl).trans ((u115.past 14 rfl).trans ((u114.past 14 rfl).trans ((u113.past 14 rfl).trans ((q102 14 rfl).trans ((u98.past 14 rfl).trans ((u97.past 14 rfl).trans ((u96.past 14 rfl).trans ((u95.past 14 rfl).trans ((u94.past 14 rfl).trans ((u85.past 14 rfl).trans ((u84.past 14 rfl).trans ((u83.past 14 rfl).trans ((u82.past 14 rfl).trans ((u81.past 14 rfl).trans ((u80.past 14 rfl).trans ((u78.past 14 rfl).trans ((u77.past 14 rfl).trans ((u76.past 14 rfl).trans ((u75.past 14 rfl).trans ((u74.past 14 rfl).trans ((u72.past 14 rfl).trans ((u71.past 14 rfl).trans ((u70.past 14 rfl).trans ((u69.past 14 rfl).trans ((u67.past 14 rfl).trans ((u66.past 14 rfl).trans ((u65.past 14 rfl).trans ((u64.past 14 rfl).trans ((u63.past 14 rfl).trans ((u61.past 14 rfl).trans ((u60.past 14 rfl).trans ((u59.past 14 rfl).trans ((u58.past 14 rfl).trans ((q57 14 rfl).trans ((q50 14 rfl).trans ((q48 14 rfl).trans s46_14))))))))))))))))))))))))))))))))))))))))))))))))))))))))) (Try.isAgg178 _) (Try.sizeOf178 _) (cells_of (off := 0) t36.here_179 rfl)) ?_; intro a178 u178 z178
            refine sp z178 rfl rfl (ex_move ((u178.past 25 rfl).trans ((u177.past 25 rfl).trans ((q166 25 rfl).trans ((u162.past 25 rfl).trans (u161.here _ rfl)))))) ?_; intro a180 u180 z180
            have J118.seen_182 := (MapF.keep (MapF.same J118.seen_154 (Mut.block m150 (MapF.lt J118.seen_154) J118.out)) t166)
            refine smapu (xk := (f, g)) (yv := (mkF A118 most (lv, r85, r118)).2.1) z180 rfl pairK Try.underlying195 J118.seen_182 ((u180.past 112 rfl).trans ((u178.past 112 rfl).trans (u177.here _ rfl))) ((u180.past 113 rfl).trans (u178.here _ rfl)) (u180.here _ rfl) ?_; intro o181 w181 a181 t181 hm181 u181 z181
            have d183 := (u181.defs.trans (u180.defs.trans (u178.defs.trans (u177.defs.trans d166))))
            refine seq_end ?_
            refine then_norm ?_
            have s184_25 : a161.eval (.tmp 25) = .int .i64 ((mkF A118 most (lv, r85, r118)).2.1) := (u161.here _ rfl)
            have s185_25 := ((u181.past 25 rfl).trans ((u180.past 25 rfl).trans ((u178.past 25 rfl).trans ((u177.past 25 rfl).trans ((q166 25 rfl).trans ((u162.past 25 rfl).trans s184_25))))))
            refine rgs mixed 116 [.eq (.int .i64 ((mkF A118 most (lv, r85, r118)).2.1)), .eq (.int .i64 ((mkF A118 most (lv, r85, r118)).2.1)), .eq (.int .i64 0)] [[(25, none)], [(115, some 0)], []] d183 z181 (by kernel_rfl) ⟨Ov rfl rfl fun _ _ T ⟨k25, _⟩ => ex_move (k25.trans s185_25), Ov rfl rfl fun _ _ T ⟨k115, _⟩ => ex_assign k115, Ov rfl rfl fun _ _ T _ => ex_assign rfl, trivial⟩ ?_
            intro a186 w186 d186 z186 t186 e186 q186
            refine wp_ret ?_
            have s187_10 : a186.eval (.tmp 10) = .int .i64 ((mkF A118 most (lv, r85, r118)).2.1) := e186.2.1
            have s188_11 : a186.eval (.tmp 11) = .int .i64 0 := e186.2.2.1
            repeat (first | (with_reducible refine then_ret ?_) | (with_reducible refine block_ret ?_))
            refine rett (rs := [.tmp 10, .tmp 11]) (vs := [.int .i64 ((mkF A118 most (lv, r85, r118)).2.1), .int .i64 0]) Try.results106 ⟨s187_10, ⟨s188_11, trivial⟩⟩ (by simp) d186 ?_
            have x189 := (Touch.trans (Touch.turn (Touch.trans (Touch.mut x156 m150 (fun jQ hQ => i126 jQ (Or.inr hQ))) (Ext.touch t166)) t181 (Or.inl (Or.inl rfl))) (Ext.touch t186))
            have H150_190 := (ArenaAt.keep (ArenaAt.turn (ArenaAt.keep H150 t166) t181 o155) t186)
            have hm181_191 := (MapF.keep hm181 t186)
            have pre3 := (J85.res.pre.trans J118.res.pre).trans RM.pre
            have good := RM.ok.elim (fun hQ => hQ.2) (fun hQ => absurd hQ (by have := c167; omega))
            exact ⟨_, _, _, _, _, _, rfl, H150_190, hm181_191, (J118.ok.pre J118.res.wf RM.wf RM.pre).put (ok_pre pre3 hf) (ok_pre pre3 hg) (good.base hW RM.wf pre3 hf hg), o155, ⟨x189, fun jQ hQ => hQ.elim (fun eQ => .inl (.inl eQ)) (i157 jQ)⟩, RM.wf, pre3, RM.room, .inl ⟨rfl, good⟩⟩
    · skip
      have s192_4 := ((u36.past 4 rfl).trans ((u29.past 4 rfl).trans ((u28.past 4 rfl).trans ((u27.past 4 rfl).trans ((u26.past 4 rfl).trans ((q14 4 rfl).trans ((u11.past 4 rfl).trans ((u10.past 4 rfl).trans ((u9.past 4 rfl).trans ((u8.past 4 rfl).trans ((u7.past 4 rfl).trans ((u6.past 4 rfl).trans ((u5.past 4 rfl).trans ((u4.past 4 rfl).trans ((u3.past 4 rfl).trans ((q1 4 rfl).trans s0_4))))))))))))))))
      have s193_14 : a29.eval (.tmp 14) = .pointer (some ⟨b29, 0, none⟩) := (u29.here _ rfl)
      have s194_14 := ((u36.past 14 rfl).trans s193_14)
      have HS_195 := (MapF.same (MapF.keep HS_31 t29) (t36.touch.block _ (MapF.lt (MapF.keep HS_31 t29)) n30_ms_b29))
      refine rgs mixed 116 [.eq (.map (some ms)), .eq (.agg #[.int .i64 f, .int .i64 g]), .eq (.tuple #[.int .i64 q43, .bool true]), .eq (.tuple #[.int .i64 q43, .bool true]), .eq (.int .i64 q43), .eq (.bool true), .eq (.int .i64 q43), .eq (.bool true)] [[(4, none)], [(14, none)], [(39, some 0), (40, some 1)], [(41, some 2)], [(38, some 3)], [(38, some 3)], [(42, some 4)], [(43, some 5)]] d37 z36 (by kernel_rfl) ⟨Ov rfl rfl fun _ _ T ⟨k4, _⟩ => ex_move (k4.trans s192_4),
        Ov rfl rfl fun _ _ T ⟨k14, _⟩ => ex_loadAgg (cs := [.int .i64 f, .int .i64 g]) (k14.trans s194_14) (Try.isAgg178 _) (Try.sizeOf178 _) (cells_of (off := 0) (Ext.keep T.ext t36.here) rfl),
        Ov rfl rfl fun _ _ T ⟨k39, k40, _⟩ => (ex_look_ok (xk := (f, g)) (MapF.keep HS_195 T.ext) pairK Try.underlying195 (zv_3 _) k39 k40).trans (by rw [hq43]; rfl),
        Ov rfl rfl fun _ _ T ⟨k41, _⟩ => ex_move k41,
        Ov rfl rfl fun _ _ T ⟨k38, _⟩ => ex_extract k38 rfl,
        Ov rfl rfl fun _ _ T ⟨k38, _⟩ => ex_extract k38 rfl,
        Ov rfl rfl fun _ _ T ⟨k42, _⟩ => ex_assign k42,
        Ov rfl rfl fun _ _ T ⟨k43, _⟩ => ex_assign k43,
        trivial⟩ ?_
      intro a196 w196 d196 z196 t196 e196 q196
      have s197_16 : a196.eval (.tmp 16) = .bool true := e196.2.2.2.2.2.2.2.1
      refine rgs mixed 116 [.eq (.bool true)] [[(16, none)]] d196 z196 (by kernel_rfl) ⟨Ov rfl rfl fun _ _ T ⟨k16, _⟩ => ex_move (k16.trans s197_16), trivial⟩ ?_
      intro a198 w198 d198 z198 t198 e198 q198
      have s199_44 : a198.eval (.tmp 44) = .bool true := e198.1
      refine wp_cond_true s199_44 ?_
      have s200_15 : a196.eval (.tmp 15) = .int .i64 q43 := e196.2.2.2.2.2.2.1
      have s201_15 := ((q198 15 rfl).trans s200_15)
      refine rgs mixed 116 [.eq (.int .i64 q43), .eq (.int .i64 q43), .eq (.int .i64 0)] [[(15, none)], [(45, some 0)], []] d198 z198 (by kernel_rfl) ⟨Ov rfl rfl fun _ _ T ⟨k15, _⟩ => ex_move (k15.trans s201_15), Ov rfl rfl fun _ _ T ⟨k45, _⟩ => ex_assign k45, Ov rfl rfl fun _ _ T _ => ex_assign rfl, trivial⟩ ?_
      intro a202 w202 d202 z202 t202 e202 q202
      refine wp_ret ?_
      have s203_10 : a202.eval (.tmp 10) = .int .i64 q43 := e202.2.1
      have s204_11 : a202.eval (.tmp 11) = .int .i64 0 := e202.2.2.1
      repeat (first | (with_reducible refine then_ret ?_) | (with_reducible refine block_ret ?_))
      refine rett (rs := [.tmp 10, .tmp 11]) (vs := [.int .i64 q43, .int .i64 0]) Try.results106 ⟨s203_10, ⟨s204_11, trivial⟩⟩ (by simp) d202 ?_
      have x205 := (Touch.trans (Touch.trans (Touch.trans (Touch.turn (Touch.trans x35 (Ext.touch t29)) t36 (Or.inr yb29_34)) (Ext.touch t196)) (Ext.touch t198)) (Ext.touch t202))
      have H_206 := (ArenaAt.keep (ArenaAt.keep (ArenaAt.keep (ArenaAt.turn (ArenaAt.keep H_33 t29) t36 o32) t196) t198) t202)
      have HS_207 := (MapF.keep (MapF.keep (MapF.keep HS_195 t196) t198) t202)
      exact ⟨Fp, A, _, _, S, cnt, rfl, H_206, HS_207, hS, hout, ⟨x205, fun _ h => .inl h⟩, hW, List.prefix_refl _, hm, .inl ⟨rfl, (hS _ _ hq43).2.2⟩⟩

theorem c_join {w : World} {b ms : Nat} {Fp : Nat → Prop} {A : List N3} {most : Int} {S : Int × Int → Option Int} {cnt : Nat} (H : ArenaAt w b Fp A most) (HS : MapF w ms pk iv S cnt) (hout : ¬ Fp ms) (kind f g : Int) (hk : 0 ≤ kind ∧ kind ≤ 3) (hW : Wf A) (hm : (A.length : Int) ≤ most) (hm2 : most ≤ 262144) (hS : SeenOk A kind S) (hf : Okn A f) (hg : Okn A g) : Calls Try.prog 106 #[.pointer (some ⟨b, 0, none⟩), .int .i64 kind, .int .i64 f, .int .i64 g, .map (some ms)] w fun e w' => ∃ Fp' A' r c S' n', e = .returned (.tuple #[.int .i64 r, .int .i64 c]) ∧ JoinPost w w' b ms Fp Fp' A A' most kind S' n' f g r c := c_join_ (104 - min (lev A f) (lev A g)).toNat H HS hout kind f g hk hW hm hm2 hS hf hg (by omega)

theorem take_pre {A B : List N3} (h : A <+: B) (h2 : 2 ≤ A.length) {n : Int} (hn : n = A.length) : B.take (max n 2).toNat = A := by
  obtain ⟨C, rfl⟩ := h
  have : (max n 2).toNat = A.length := by omega
  rw [this, List.take_left]
theorem Res.imp {A A' : List N3} {most e : Int} {good good' : Prop} (h : Res A A' most e good) (hg : good → good') : Res A A' most e good' := ⟨h.wf, h.pre, h.room, h.ok.imp (fun q => ⟨q.1, hg q.2⟩) id⟩
theorem Res.zero {A A' : List N3} {most e : Int} {good : Prop} (h : Res A A' most e good) (he : ¬ e ≠ 0) : Res A A' most 0 good := by
  have : e = 0 := Decidable.of_not_not he
  subst this; exact h
theorem Res.back {A A' : List N3} {most e : Int} {good good' : Prop} (hA : Wf A) (hm : (A.length : Int) ≤ most) (h : Res A A' most e good) (he : e ≠ 0) : Res A A most e good' :=
  ⟨hA, List.prefix_refl _, hm, h.ok.elim (fun q => absurd q.1 he) .inr⟩

set_option maxRecDepth 100000 in
set_option maxHeartbeats 4000000 in
theorem c_Join {w : World} {b : Nat} {Fp : Nat → Prop} {A : List N3} {most : Int} (H : ArenaAt w b Fp A most) (hW : Wf A) (hm : (A.length : Int) ≤ most) (hm2 : most ≤ 262144) (kind f g : Int) (hk : 0 ≤ kind ∧ kind ≤ 3) (hf : Okn A f) (hg : Okn A g) : Calls Try.prog 68 #[.pointer (some ⟨b, 0, none⟩), .int .i64 kind, .int .i64 f, .int .i64 g] w fun e w' => ∃ Fp' A' r c, e = .returned (.tuple #[.int .i64 r, .int .i64 c]) ∧ ArenaAt w' b Fp' A' most ∧ Mut Fp Fp' w w' ∧ Res A A' most c (JoinGood A A' kind f g r) ∧ (c ≠ 0 → A' = A ∧ r = 0) := by
  have hl2 := hW.len
  refine enter 53 Try.ntmps68 Try.func68 rfl (Nat.le_of_ble_eq_true rfl) fun a0 d0 z0 hargs => ?_
  have s0_0 : a0.eval (.tmp 0) = .pointer (some ⟨b, 0, none⟩) := hargs 0 _ rfl
  have s0_1 : a0.eval (.tmp 1) = .int .i64 kind := hargs 1 _ rfl
  have s0_2 : a0.eval (.tmp 2) = .int .i64 f := hargs 2 _ rfl
  have s0_3 : a0.eval (.tmp 3) = .int .i64 g := hargs 3 _ rfl
  have x0 := Touch.refl Fp w
  refine rgs mixed 53 [.eq (.int .i64 0), .eq (.int .i64 0)] [[], []] d0 z0 (by kernel_rfl) ⟨Ov rfl rfl fun _ _ T _ => ex_assign rfl, Ov rfl rfl fun _ _ T _ => ex_assign rfl, trivial⟩ ?_
  intro a1 w1 d1 z1 t1 e1 q1
  refine wp_seq_k fun K2 hK2 => ?_
  refine wp_block ?_
  have s3_0 := ((q1 0 rfl).trans s0_0)
  refine rgs mixed 53 [.eq (.pointer (some ⟨b, 0, none⟩)), .eq (.bool false), .eq (.bool false)] [[(0, none)], [(14, some 0)], [(15, some 1)]] d1 z1 (by kernel_rfl) ⟨Ov rfl rfl fun _ _ T ⟨k0, _⟩ => ex_move (k0.trans s3_0), Ov rfl rfl fun _ _ T ⟨k14, _⟩ => ex_ptr_eql_nil k14 rfl (by kernel_rfl), Ov rfl rfl fun _ _ T ⟨k15, _⟩ => ex_assign k15, trivial⟩ ?_
  intro a4 w4 d4 z4 t4 e4 q4
  have s5_13 : a4.eval (.tmp 13) = .bool false := e4.2.2.1
  refine wp_cond_false s5_13 ?_
  refine wp_seq ?_
  refine seq_begin ?_
  refine sp z4 rfl rfl (ex_move ((q4 0 rfl).trans s3_0)) ?_; intro a6 u6 z6
  refine sp z6 rfl rfl (ex_move ((u6.past 2 rfl).trans ((q4 2 rfl).trans ((q1 2 rfl).trans s0_2)))) ?_; intro a7 u7 z7
  have H_9 := (ArenaAt.keep (ArenaAt.keep H t1) t4)
  refine scx z7 rfl rfl (exl_call Try.func62 rfl rfl (cons_ops ((u7.past 17 rfl).trans (u6.here _ rfl)) (cons_ops (u7.here _ rfl) nil_ops))) (a_has H_9 _) ?_; intro w8 a8 t8 u8 z8
  refine sp z8 rfl rfl (ex_not (u8.here _ rfl)) ?_; intro a10 u10 z10
  refine sp z10 rfl rfl (ex_move (u10.here _ rfl)) ?_; intro a11 u11 z11
  refine sg z11 rfl rfl rfl (u11.here _ rfl) (fun hcQ => ex_move ((u11.past 0 rfl).trans ((u10.past 0 rfl).trans ((u8.past 0 rfl).trans ((u7.past 0 rfl).trans ((u6.past 0 rfl).trans ((q4 0 rfl).trans s3_0))))))) ?_; intro a12 u12 z12
  refine sg z12 rfl rfl rfl ((u12.past 21 rfl).trans (u11.here _ rfl)) (fun hcQ => ex_move ((u12.past 3 rfl).trans ((u11.past 3 rfl).trans ((u10.past 3 rfl).trans ((u8.past 3 rfl).trans ((u7.past 3 rfl).trans ((u6.past 3 rfl).trans ((q4 3 rfl).trans ((q1 3 rfl).trans s0_3))))))))) ?_; intro a13 u13 z13
  have H_15 := (ArenaAt.keep H_9 t8)
  refine scg z13 rfl rfl rfl ((u13.past 21 rfl).trans ((u12.past 21 rfl).trans (u11.here _ rfl))) (fun hcQ => exl_call Try.func62 rfl rfl (cons_ops (((u13.past 22 rfl).trans (u12.here _ rfl)).trans (if_pos hcQ)) (cons_ops ((u13.here _ rfl).trans (if_pos hcQ)) nil_ops))) (fun hcQ => a_has H_15 _) ?_; intro w14 a14 t14 u14 z14
  refine sg z14 rfl rfl rfl ((u14.past 21 rfl).trans ((u13.past 21 rfl).trans ((u12.past 21 rfl).trans (u11.here _ rfl)))) (fun hcQ => ex_not ((u14.here _ rfl).trans (if_pos hcQ))) ?_; intro a16 u16 z16
  refine sp z16 rfl rfl (ex_pick_or ((u16.past 21 rfl).trans ((u14.past 21 rfl).trans ((u13.past 21 rfl).trans ((u12.past 21 rfl).trans (u11.here _ rfl))))) rfl (u16.here _ rfl)) ?_; intro a17 u17 z17
  refine sp z17 rfl rfl (ex_move (u17.here _ rfl)) ?_; intro a18 u18 z18
  refine sg z18 rfl rfl rfl (u18.here _ rfl) (fun hcQ => ex_move ((u18.past 1 rfl).trans ((u17.past 1 rfl).trans ((u16.past 1 rfl).trans ((u14.past 1 rfl).trans ((u13.past 1 rfl).trans ((u12.past 1 rfl).trans ((u11.past 1 rfl).trans ((u10.past 1 rfl).trans ((u8.past 1 rfl).trans ((u7.past 1 rfl).trans ((u6.past 1 rfl).trans ((q4 1 rfl).trans ((q1 1 rfl).trans s0_1)))))))))))))) ?_; intro a19 u19 z19
  refine sg z19 rfl rfl rfl ((u19.past 27 rfl).trans (u18.here _ rfl)) (fun hcQ => ex_lss ((u19.here _ rfl).trans (if_pos hcQ)) rfl) ?_; intro a20 u20 z20
  refine sp z20 rfl rfl (ex_pick_or ((u20.past 27 rfl).trans ((u19.past 27 rfl).trans (u18.here _ rfl))) rfl (u20.here _ rfl)) ?_; intro a21 u21 z21
  refine sp z21 rfl rfl (ex_move (u21.here _ rfl)) ?_; intro a22 u22 z22
  refine sg z22 rfl rfl rfl (u22.here _ rfl) (fun hcQ => ex_move ((u22.past 1 rfl).trans ((u21.past 1 rfl).trans ((u20.past 1 rfl).trans ((u19.past 1 rfl).trans ((u18.past 1 rfl).trans ((u17.past 1 rfl).trans ((u16.past 1 rfl).trans ((u14.past 1 rfl).trans ((u13.past 1 rfl).trans ((u12.past 1 rfl).trans ((u11.past 1 rfl).trans ((u10.past 1 rfl).trans ((u8.past 1 rfl).trans ((u7.past 1 rfl).trans ((u6.past 1 rfl).trans ((q4 1 rfl).trans ((q1 1 rfl).trans s0_1)))))))))))))))))) ?_; intro a23 u23 z23
  refine sg z23 rfl rfl rfl ((u23.past 31 rfl).trans (u22.here _ rfl)) (fun hcQ => ex_gtr ((u23.here _ rfl).trans (if_pos hcQ)) rfl) ?_; intro a24 u24 z24
  refine sp z24 rfl rfl (ex_pick_or ((u24.past 31 rfl).trans ((u23.past 31 rfl).trans (u22.here _ rfl))) rfl (u24.here _ rfl)) ?_; intro a25 u25 z25
  refine sp z25 rfl rfl (ex_assign (u25.here _ rfl)) ?_; intro a26 u26 z26
  have d27 := (u26.defs.trans (u25.defs.trans (u24.defs.trans (u23.defs.trans (u22.defs.trans (u21.defs.trans (u20.defs.trans (u19.defs.trans (u18.defs.trans (u17.defs.trans (u16.defs.trans (u14.defs.trans (u13.defs.trans (u12.defs.trans (u11.defs.trans (u10.defs.trans (u8.defs.trans (u7.defs.trans (u6.defs.trans d4)))))))))))))))))))
  refine seq_end ?_
  refine then_norm ?_
  rcases Bool.eq_false_or_eq_true ((((!(decide (Okn A f))) || (!(decide (Okn A g)))) || (decide (kind < 0))) || (decide (3 < kind))) with y28 | y28
  · have c28 := y28; try simp only [Bool.and_eq_true, Bool.or_eq_true, Bool.and_eq_false_iff, Bool.or_eq_false_iff, Bool.not_eq_true', Bool.not_eq_false', decide_eq_true_eq, decide_eq_false_iff_not] at c28
    have s29_16 : a26.eval (.tmp 16) = .bool ((((!(decide (Okn A f))) || (!(decide (Okn A g)))) || (decide (kind < 0))) || (decide (3 < kind))) := (u26.here _ rfl)
    refine wp_cond_true (s29_16.trans (by rw [y28])) ?_
    refine rgs mixed 53 [.eq (.int .i64 0), .eq (.int .i64 1)] [[], []] d27 z26 (by kernel_rfl) ⟨Ov rfl rfl fun _ _ T _ => ex_assign rfl, Ov rfl rfl fun _ _ T _ => ex_assign rfl, trivial⟩ ?_
    intro a30 w30 d30 z30 t30 e30 q30
    refine wp_ret ?_
    have s31_8 : a30.eval (.tmp 8) = .int .i64 0 := e30.1
    have s32_9 : a30.eval (.tmp 9) = .int .i64 1 := e30.2.1
    repeat (first | (with_reducible refine then_ret ?_) | (with_reducible refine block_ret ?_))
    refine rett (rs := [.tmp 8, .tmp 9]) (vs := [.int .i64 0, .int .i64 1]) Try.results68 ⟨s31_8, ⟨s32_9, trivial⟩⟩ (by simp) d30 ?_
    exfalso; simp only [Okn, Bool.or_eq_true, Bool.not_eq_true', decide_eq_true_eq, decide_eq_false_iff_not] at *; omega
  · have c28 := y28; try simp only [Bool.and_eq_true, Bool.or_eq_true, Bool.and_eq_false_iff, Bool.or_eq_false_iff, Bool.not_eq_true', Bool.not_eq_false', decide_eq_true_eq, decide_eq_false_iff_not] at c28
    have s33_16 : a26.eval (.tmp 16) = .bool ((((!(decide (Okn A f))) || (!(decide (Okn A g)))) || (decide (kind < 0))) || (decide (3 < kind))) := (u26.here _ rfl)
    refine wp_cond_false (s33_16.trans (by rw [y28])) ?_
    refine wp_skip ?_
    repeat (with_reducible refine block_norm ?_)
    refine hK2 _ _ ?_
    refine wp_seq ?_
    refine seq_begin ?_
    refine sp z26 rfl rfl (ex_move ((u26.past 0 rfl).trans ((u25.past 0 rfl).trans ((u24.past 0 rfl).trans ((u23.past 0 rfl).trans ((u22.past 0 rfl).trans ((u21.past 0 rfl).trans ((u20.past 0 rfl).trans ((u19.past 0 rfl).trans ((u18.past 0 rfl).trans ((u17.past 0 rfl).trans ((u16.past 0 rfl).trans ((u14.past 0 rfl).trans ((u13.past 0 rfl).trans ((u12.past 0 rfl).trans ((u11.past 0 rfl).trans ((u10.past 0 rfl).trans ((u8.past 0 rfl).trans ((u7.past 0 rfl).trans ((u6.past 0 rfl).trans ((q4 0 rfl).trans s3_0))))))))))))))))))))) ?_; intro a34 u34 z34
    have H_36 := (ArenaAt.keep H_15 t14)
    refine scx z34 rfl rfl (exl_call Try.func16 rfl rfl (cons_ops (u34.here _ rfl) nil_ops)) (a_len H_36) ?_; intro w35 a35 t35 u35 z35
    refine sp z35 rfl rfl (ex_assign (u35.here _ rfl)) ?_; intro a37 u37 z37
    have d38 := (u37.defs.trans (u35.defs.trans (u34.defs.trans d27)))
    refine seq_end ?_
    refine then_norm ?_
    refine wp_seq ?_
    refine seq_begin ?_
    refine sp z37 rfl rfl (ex_move ((u37.past 0 rfl).trans ((u35.past 0 rfl).trans ((u34.past 0 rfl).trans ((u26.past 0 rfl).trans ((u25.past 0 rfl).trans ((u24.past 0 rfl).trans ((u23.past 0 rfl).trans ((u22.past 0 rfl).trans ((u21.past 0 rfl).trans ((u20.past 0 rfl).trans ((u19.past 0 rfl).trans ((u18.past 0 rfl).trans ((u17.past 0 rfl).trans ((u16.past 0 rfl).trans ((u14.past 0 rfl).trans ((u13.past 0 rfl).trans ((u12.past 0 rfl).trans ((u11.past 0 rfl).trans ((u10.past 0 rfl).trans ((u8.past 0 rfl).trans ((u7.past 0 rfl).trans ((u6.past 0 rfl).trans ((q4 0 rfl).trans s3_0)))))))))))))))))))))))) ?_; intro a39 u39 z39
    refine sp z39 rfl rfl (ex_move ((u39.past 1 rfl).trans ((u37.past 1 rfl).trans ((u35.past 1 rfl).trans ((u34.past 1 rfl).trans ((u26.past 1 rfl).trans ((u25.past 1 rfl).trans ((u24.past 1 rfl).trans ((u23.past 1 rfl).trans ((u22.past 1 rfl).trans ((u21.past 1 rfl).trans ((u20.past 1 rfl).trans ((u19.past 1 rfl).trans ((u18.past 1 rfl).trans ((u17.past 1 rfl).trans ((u16.past 1 rfl).trans ((u14.past 1 rfl).trans ((u13.past 1 rfl).trans ((u12.past 1 rfl).trans ((u11.past 1 rfl).trans ((u10.past 1 rfl).trans ((u8.past 1 rfl).trans ((u7.past 1 rfl).trans ((u6.past 1 rfl).trans ((q4 1 rfl).trans ((q1 1 rfl).trans s0_1)))))))))))))))))))))))))) ?_; intro a40 u40 z40
    refine sp z40 rfl rfl (ex_move ((u40.past 2 rfl).trans ((u39.past 2 rfl).trans ((u37.past 2 rfl).trans ((u35.past 2 rfl).trans ((u34.past 2 rfl).trans ((u26.past 2 rfl).trans ((u25.past 2 rfl).trans ((u24.past 2 rfl).trans ((u23.past 2 rfl).trans ((u22.past 2 rfl).trans ((u21.past 2 rfl).trans ((u20.past 2 rfl).trans ((u19.past 2 rfl).trans ((u18.past 2 rfl).trans ((u17.past 2 rfl).trans ((u16.past 2 rfl).trans ((u14.past 2 rfl).trans ((u13.past 2 rfl).trans ((u12.past 2 rfl).trans ((u11.past 2 rfl).trans ((u10.past 2 rfl).trans ((u8.past 2 rfl).trans ((u7.past 2 rfl).trans ((u6.past 2 rfl).trans ((q4 2 rfl).trans ((q1 2 rfl).trans s0_2))))))))))))))))))))))))))) ?_; intro a41 u41 z41
    refine sp z41 rfl rfl (ex_move ((u41.past 3 rfl).trans ((u40.past 3 rfl).trans ((u39.past 3 rfl).trans ((u37.past 3 rfl).trans ((u35.past 3 rfl).trans ((u34.past 3 rfl).trans ((u26.past 3 rfl).trans ((u25.past 3 rfl).trans ((u24.past 3 rfl).trans ((u23.past 3 rfl).trans ((u22.past 3 rfl).trans ((u21.past 3 rfl).trans ((u20.past 3 rfl).trans ((u19.past 3 rfl).trans ((u18.past 3 rfl).trans ((u17.past 3 rfl).trans ((u16.past 3 rfl).trans ((u14.past 3 rfl).trans ((u13.past 3 rfl).trans ((u12.past 3 rfl).trans ((u11.past 3 rfl).trans ((u10.past 3 rfl).trans ((u8.past 3 rfl).trans ((u7.past 3 rfl).trans ((u6.past 3 rfl).trans ((q4 3 rfl).trans ((q1 3 rfl).trans s0_3)))))))))))))))))))))))))))) ?_; intro a42 u42 z42
    refine snew (mk := fun bQ => .map (some bQ)) z42 rfl rfl (ex_makeMap Try.underlying195) ?_; intro b43 w43 a43 t43 g43 hb43 u43 z43
    have H_45 := (ArenaAt.keep H_36 t35)
    have o44 : ¬ Fp b43 := fun hQ => by have := ArenaAt.lt H_45 hQ; omega
    have x47 := (Touch.trans (Touch.trans (Touch.trans (Touch.trans (Touch.trans x0 (Ext.touch t1)) (Ext.touch t4)) (Ext.touch t8)) (Ext.touch t14)) (Ext.touch t35))
    have yb43_46 := Nat.le_trans (Touch.size x47) g43
    have hm43 := MapF.made (ek := pk) (ev := iv) hb43
    have H_49 := (ArenaAt.keep H_45 t43)
    refine sc z43 rfl rfl (exl_call Try.func106 rfl rfl (cons_ops ((u43.past 38 rfl).trans ((u42.past 38 rfl).trans ((u41.past 38 rfl).trans ((u40.past 38 rfl).trans (u39.here _ rfl))))) (cons_ops ((u43.past 39 rfl).trans ((u42.past 39 rfl).trans ((u41.past 39 rfl).trans (u40.here _ rfl)))) (cons_ops ((u43.past 40 rfl).trans ((u42.past 40 rfl).trans (u41.here _ rfl))) (cons_ops ((u43.past 41 rfl).trans (u42.here _ rfl)) (cons_ops (u43.here _ rfl) nil_ops)))))) (c_join H_49 hm43 o44 kind f g hk hW hm hm2 (SeenOk.none _ _) hf hg) ?_
    rintro e48 w48 ⟨Fp48, A48, r48, c48, S48, n48, he48, J48⟩; refine ⟨_, he48, ?_⟩; intro a48 u48 z48
    have i50 := fun jQ (hQ : (Fj b43 Fp) jQ) => (hQ.elim (fun eQ => by rw [eQ]; exact (Or.inr yb43_46)) ((fun jQ hQ => Or.inl hQ) jQ) : (Fp) jQ ∨ w.heap.size ≤ jQ)
    have x51 := (Touch.trans x47 (Ext.touch t43))
    have i52 := Mut.inF J48.mt x51 i50
    refine sp z48 rfl rfl (ex_move (u48.here _ rfl)) ?_; intro a53 u53 z53
    refine sp z53 rfl rfl (ex_extract (u53.here _ rfl) rfl) ?_; intro a54 u54 z54
    refine sp z54 rfl rfl (ex_extract ((u54.past 37 rfl).trans (u53.here _ rfl)) rfl) ?_; intro a55 u55 z55
    refine sp z55 rfl rfl (ex_assign ((u55.past 44 rfl).trans (u54.here _ rfl))) ?_; intro a56 u56 z56
    refine sp z56 rfl rfl (ex_assign ((u56.past 45 rfl).trans (u55.here _ rfl))) ?_; intro a57 u57 z57
    have d58 := (u57.defs.trans (u56.defs.trans (u55.defs.trans (u54.defs.trans (u53.defs.trans (u48.defs.trans (u43.defs.trans (u42.defs.trans (u41.defs.trans (u40.defs.trans (u39.defs.trans d38)))))))))))
    refine seq_end ?_
    refine then_norm ?_
    refine wp_seq_k fun K59 hK59 => ?_
    have s60_12 : a57.eval (.tmp 12) = .int .i64 c48 := (u57.here _ rfl)
    refine rgs mixed 53 [.eq (.int .i64 c48), .eq (.bool (decide (c48 ≠ 0)))] [[(12, none)], [(46, some 0)]] d58 z57 (by kernel_rfl) ⟨Ov rfl rfl fun _ _ T ⟨k12, _⟩ => ex_move (k12.trans s60_12), Ov rfl rfl fun _ _ T ⟨k46, _⟩ => ex_neq k46 rfl, trivial⟩ ?_
    intro a61 w61 d61 z61 t61 e61 q61
    by_cases c62 : c48 ≠ 0
    · have y62 := decide_eq_true c62
      have s63_47 : a61.eval (.tmp 47) = .bool (decide (c48 ≠ 0)) := e61.2.1
      refine wp_cond_true (s63_47.trans (by rw [y62])) ?_
      have len2 := J48.res.wf.len; have roomm := J48.res.room
      refine wp_seq ?_
      refine seq_begin ?_
      refine sp z61 rfl rfl (ex_move ((q61 0 rfl).trans ((u57.past 0 rfl).trans ((u56.past 0 rfl).trans ((u55.past 0 rfl).trans ((u54.past 0 rfl).trans ((u53.past 0 rfl).trans ((u48.past 0 rfl).trans ((u43.past 0 rfl).trans ((u42.past 0 rfl).trans ((u41.past 0 rfl).trans ((u40.past 0 rfl).trans ((u39.past 0 rfl).trans ((u37.past 0 rfl).trans ((u35.past 0 rfl).trans ((u34.past 0 rfl).trans ((u26.past 0 rfl).trans ((u25.past 0 rfl).trans ((u24.past 0 rfl).trans ((u23.past 0 rfl).trans ((u22.past 0 rfl).trans ((u21.past 0 rfl).trans ((u20.past 0 rfl).trans ((u19.past 0 rfl).trans ((u18.past 0 rfl).trans ((u17.past 0 rfl).trans ((u16.past 0 rfl).trans ((u14.past 0 rfl).trans ((u13.past 0 rfl).trans ((u12.past 0 rfl).trans ((u11.past 0 rfl).trans ((u10.past 0 rfl).trans ((u8.past 0 rfl).trans ((u7.past 0 rfl).trans ((u6.past 0 rfl).trans ((q4 0 rfl).trans s3_0)))))))))))))))))))))))))))))))))))) ?_; intro a64 u64 z64
      refine sp z64 rfl rfl (ex_move ((u64.past 10 rfl).trans ((q61 10 rfl).trans ((u57.past 10 rfl).trans ((u56.past 10 rfl).trans ((u55.past 10 rfl).trans ((u54.past 10 rfl).trans ((u53.past 10 rfl).trans ((u48.past 10 rfl).trans ((u43.past 10 rfl).trans ((u42.past 10 rfl).trans ((u41.past 10 rfl).trans ((u40.past 10 rfl).trans ((u39.past 10 rfl).trans (u37.here _ rfl))))))))))))))) ?_; intro a65 u65 z65
      have J48.at__67 := (ArenaAt.keep J48.at_ t61)
      refine sc z65 rfl rfl (exl_call Try.func101 rfl rfl (cons_ops ((u65.past 48 rfl).trans (u64.here _ rfl)) (cons_ops (u65.here _ rfl) nil_ops))) (c_cut J48.at__67 (A.length : Int) (by omega) (by omega) J48.res.wf.nodup) ?_
      rintro e66 w66 ⟨he66, H66, m66⟩; refine ⟨_, he66, ?_⟩; intro a66 u66 z66
      have J48.seen_68 := (MapF.keep J48.seen t61)
      have o69 := Mut.out m66 (MapF.lt J48.seen_68) J48.out
      have x70 := (Touch.trans (Touch.mut x51 J48.mt i50) (Ext.touch t61))
      have i71 := Mut.inF m66 x70 (fun jQ hQ => i52 jQ (Or.inr hQ))
      have d72 := (u66.defs.trans (u65.defs.trans (u64.defs.trans d61)))
      refine seq_end ?_
      refine then_norm ?_
      have s73_12 := ((u66.past 12 rfl).trans ((u65.past 12 rfl).trans ((u64.past 12 rfl).trans ((q61 12 rfl).trans s60_12))))
      refine rgs mixed 53 [.eq (.int .i64 c48), .eq (.int .i64 0), .eq (.int .i64 c48)] [[(12, none)], [], [(51, some 0)]] d72 z66 (by kernel_rfl) ⟨Ov rfl rfl fun _ _ T ⟨k12, _⟩ => ex_move (k12.trans s73_12), Ov rfl rfl fun _ _ T _ => ex_assign rfl, Ov rfl rfl fun _ _ T ⟨k51, _⟩ => ex_assign k51, trivial⟩ ?_
      intro a74 w74 d74 z74 t74 e74 q74
      refine wp_ret ?_
      have s75_8 : a74.eval (.tmp 8) = .int .i64 0 := e74.2.1
      have s76_9 : a74.eval (.tmp 9) = .int .i64 c48 := e74.2.2.1
      repeat (first | (with_reducible refine then_ret ?_) | (with_reducible refine block_ret ?_))
      refine rett (rs := [.tmp 8, .tmp 9]) (vs := [.int .i64 0, .int .i64 c48]) Try.results68 ⟨s75_8, ⟨s76_9, trivial⟩⟩ (by simp) d74 ?_
      have et := take_pre J48.res.pre hl2 (n := (A.length : Int)) rfl
      have H66_77 := (ArenaAt.keep H66 t74)
      have HH := H66_77
      rw [et] at HH
      have x78 := (Touch.trans (Touch.mut x70 m66 i71) (Ext.touch t74))
      exact ⟨_, _, _, _, rfl, HH, ⟨x78, i71⟩, J48.res.back hW hm c62, fun _ => ⟨rfl, rfl⟩⟩
    · have y62 := decide_eq_false c62
      have s79_47 : a61.eval (.tmp 47) = .bool (decide (c48 ≠ 0)) := e61.2.1
      refine wp_cond_false (s79_47.trans (by rw [y62])) ?_
      refine wp_skip ?_
      repeat (with_reducible refine block_norm ?_)
      refine hK59 _ _ ?_
      have s80_11 : a56.eval (.tmp 11) = .int .i64 r48 := (u56.here _ rfl)
      have s81_11 := ((q61 11 rfl).trans ((u57.past 11 rfl).trans s80_11))
      refine rgs mixed 53 [.eq (.int .i64 r48), .eq (.int .i64 r48), .eq (.int .i64 0)] [[(11, none)], [(52, some 0)], []] d61 z61 (by kernel_rfl) ⟨Ov rfl rfl fun _ _ T ⟨k11, _⟩ => ex_move (k11.trans s81_11), Ov rfl rfl fun _ _ T ⟨k52, _⟩ => ex_assign k52, Ov rfl rfl fun _ _ T _ => ex_assign rfl, trivial⟩ ?_
      intro a82 w82 d82 z82 t82 e82 q82
      refine wp_ret ?_
      have s83_8 : a82.eval (.tmp 8) = .int .i64 r48 := e82.2.1
      have s84_9 : a82.eval (.tmp 9) = .int .i64 0 := e82.2.2.1
      repeat (first | (with_reducible refine then_ret ?_) | (with_reducible refine block_ret ?_))
      refine rett (rs := [.tmp 8, .tmp 9]) (vs := [.int .i64 r48, .int .i64 0]) Try.results68 ⟨s83_8, ⟨s84_9, trivial⟩⟩ (by simp) d82 ?_
      have J48.at__85 := (ArenaAt.keep (ArenaAt.keep J48.at_ t61) t82)
      have x86 := (Touch.trans (Touch.trans (Touch.mut x51 J48.mt i50) (Ext.touch t61)) (Ext.touch t82))
      exact ⟨_, _, _, _, rfl, J48.at__85, ⟨x86, (fun jQ hQ => i52 jQ (Or.inr hQ))⟩, J48.res.zero c62, fun hQ => absurd rfl hQ⟩

end Go.Proofs.Yticodddigaiipaa
