/-
 Contracts of functions of the given program, each proved by a walk through its code: what a call answers, and what it leaves of memory; conditions: those ahead of each theorem's colon.
-/
import Derived.Test.YticodddigaiipaaSatS5
import Derived.Test.YticodddigaiipaaSatK18
set_option linter.unusedVariables false
set_option linter.unusedSimpArgs false
namespace Go.Proofs.Yticodddigaiipaa
open Go.RowKit
theorem zv_31 (w : World) : (zeroValue 31).run Try.prog w = .ok (.agg #[.int .u32 0, .int .u32 0, .int .u8 0, .int .u16 0, .int .u16 0]) w := by kernel_rfl
theorem ext_add64 {x y c : Int} (hx : 0 ≤ x) (hy : 0 ≤ y) (hc0 : 0 ≤ c) (hc : c ≤ 1) (w : World) : (callFunc 134 #[.int .u64 x, .int .u64 y, .int .u64 c]).run Try.prog w = .ok (.value (.tuple #[.int .u64 ((x + y + c) % 18446744073709551616), .int .u64 ((x + y + c) / 18446744073709551616)])) w :=
 call_add64 Try.func134 rfl rfl (by kernel_rfl) (by kernel_rfl) hx hy hc0 hc w
def wadd (ch : Int) (cl : Int) (dh : Int) (dl : Int) : Int × Int := ((ch + dh + ((cl + dl + 0) / 18446744073709551616)) % 18446744073709551616, (cl + dl + 0) % 18446744073709551616)
set_option maxRecDepth 100000 in
set_option maxHeartbeats 4000000 in
theorem c_wadd (ch : Int) (cl : Int) (dh : Int) (dl : Int) (hch : 0 ≤ ch ∧ ch ≤ 18446744073709551615)(hcl : 0 ≤ cl ∧ cl ≤ 18446744073709551615)(hdh : 0 ≤ dh ∧ dh ≤ 18446744073709551615)(hdl : 0 ≤ dl ∧ dl ≤ 18446744073709551615) (w : World) : Calls Try.prog 112 #[.agg #[.int .u64 ch, .int .u64 cl], .agg #[.int .u64 dh, .int .u64 dl]] w fun e w' => e = .returned (.agg #[.int .u64 (wadd ch cl dh dl).1, .int .u64 (wadd ch cl dh dl).2]) ∧ Ext w w' := by
 refine enter 29 Try.ntmps112 Try.func112 rfl (Nat.le_of_ble_eq_true rfl) fun a0 d0 z0 hargs => ?_
 have s0_0 : a0.eval (.tmp 0) = .agg #[.int .u64 ch, .int .u64 cl] := hargs 0 _ rfl
 have s0_1 : a0.eval (.tmp 1) = .agg #[.int .u64 dh, .int .u64 dl] := hargs 1 _ rfl
 have x0 := Touch.refl NoF w
 refine wp_seq ?_
 refine seq_begin ?_
 refine sbox z0 rfl s0_0 ?_; intro b1 w1 a1 t1 g1 hb1 u1 z1
 have yb1_2 := Nat.le_trans (Touch.size x0) g1
 refine sbox z1 rfl ((u1.past 1 rfl).trans s0_1) ?_; intro b3 w3 a3 t3 g3 hb3 u3 z3
 have n4_b1_b3 := ne_lt (lt_of hb1) g3
 have x6 := (Touch.trans x0 (Ext.touch t1))
 have yb3_5 := Nat.le_trans (Touch.size x6) g3
 refine salloc z3 rfl (zv_57 _) ?_; intro b7 w7 a7 t7 g7 hb7 u7 z7
 have hb1_9 := (Ext.keep t3 hb1)
 have n8_b1_b7 := ne_lt (lt_of hb1_9) g7
 have n10_b3_b7 := ne_lt (lt_of hb3) g7
 have x12 := (Touch.trans x6 (Ext.touch t3))
 have yb7_11 := Nat.le_trans (Touch.size x12) g7
 have d13 := (u7.defs.trans (u3.defs.trans (u1.defs.trans d0)))
 refine seq_end ?_
 refine then_norm ?_
 refine wp_seq ?_
 refine seq_begin ?_
 refine sp z7 rfl rfl (ex_fieldAddr ((u7.past 2 rfl).trans ((u3.past 2 rfl).trans (u1.here _ rfl))) (fa_57_1 _ _ _)) ?_; intro a14 u14 z14
 have hb1_16 := (Ext.keep t7 hb1_9)
 refine sp z14 rfl rfl (ex_load (u14.here _ rfl) (Try.isAgg55 _) (cell_of hb1_16 rfl)) ?_; intro a15 u15 z15
 refine sp z15 rfl rfl (ex_fieldAddr ((u15.past 3 rfl).trans ((u14.past 3 rfl).trans ((u7.past 3 rfl).trans (u3.here _ rfl)))) (fa_57_1 _ _ _)) ?_; intro a17 u17 z17
 have hb3_19 := (Ext.keep t7 hb3)
 refine sp z17 rfl rfl (ex_load (u17.here _ rfl) (Try.isAgg55 _) (cell_of hb3_19 rfl)) ?_; intro a18 u18 z18
 refine sp z18 rfl rfl (exl_extern (cons_ops ((u18.past 11 rfl).trans ((u17.past 11 rfl).trans (u15.here _ rfl))) (cons_ops (u18.here _ rfl) (cons_ops rfl nil_ops))) (ext_add64 (by omega) (by omega) (by omega) (by omega) _)) ?_; intro a20 u20 z20
 refine sp z20 rfl rfl (ex_move (u20.here _ rfl)) ?_; intro a21 u21 z21
 refine sp z21 rfl rfl (ex_extract (u21.here _ rfl) rfl) ?_; intro a22 u22 z22
 refine sp z22 rfl rfl (ex_extract ((u22.past 9 rfl).trans (u21.here _ rfl)) rfl) ?_; intro a23 u23 z23
 refine sp z23 rfl rfl (ex_assign ((u23.past 15 rfl).trans (u22.here _ rfl))) ?_; intro a24 u24 z24
 refine sp z24 rfl rfl (ex_assign ((u24.past 16 rfl).trans (u23.here _ rfl))) ?_; intro a25 u25 z25
 have d26 := (u25.defs.trans (u24.defs.trans (u23.defs.trans (u22.defs.trans (u21.defs.trans (u20.defs.trans (u18.defs.trans (u17.defs.trans (u15.defs.trans (u14.defs.trans d13))))))))))
 refine seq_end ?_
 refine then_norm ?_
 refine wp_seq ?_
 refine seq_begin ?_
 have p28 := fr4 u15.past u17.past u18.past u20.past
 have p29 := fr4 u21.past u22.past u23.past u24.past
 refine sp z25 rfl rfl (ex_fieldAddr ((u25.past 2 rfl).trans ((p29 2 rfl).trans ((p28 2 rfl).trans ((u14.past 2 rfl).trans ((u7.past 2 rfl).trans ((u3.past 2 rfl).trans (u1.here _ rfl))))))) (fa_57_0 _ _ _)) ?_; intro a27 u27 z27
 refine sp z27 rfl rfl (ex_load (u27.here _ rfl) (Try.isAgg55 _) (cell_of hb1_16 rfl)) ?_; intro a30 u30 z30
 refine sp z30 rfl rfl (ex_fieldAddr ((u30.past 3 rfl).trans ((u27.past 3 rfl).trans ((u25.past 3 rfl).trans ((p29 3 rfl).trans ((p28 3 rfl).trans ((u14.past 3 rfl).trans ((u7.past 3 rfl).trans (u3.here _ rfl)))))))) (fa_57_0 _ _ _)) ?_; intro a31 u31 z31
 refine sp z31 rfl rfl (ex_load (u31.here _ rfl) (Try.isAgg55 _) (cell_of hb3_19 rfl)) ?_; intro a32 u32 z32
 refine sp z32 rfl rfl (ex_move ((u32.past 6 rfl).trans ((u31.past 6 rfl).trans ((u30.past 6 rfl).trans ((u27.past 6 rfl).trans (u25.here _ rfl)))))) ?_; intro a33 u33 z33
 refine sp z33 rfl rfl (exl_extern (cons_ops ((u33.past 19 rfl).trans ((u32.past 19 rfl).trans ((u31.past 19 rfl).trans (u30.here _ rfl)))) (cons_ops ((u33.past 21 rfl).trans (u32.here _ rfl)) (cons_ops (u33.here _ rfl) nil_ops))) (ext_add64 (by omega) (by omega) (by omega) (by omega) _)) ?_; intro a34 u34 z34
 refine sp z34 rfl rfl (ex_move (u34.here _ rfl)) ?_; intro a35 u35 z35
 refine sp z35 rfl rfl (ex_extract (u35.here _ rfl) rfl) ?_; intro a36 u36 z36
 refine sp z36 rfl rfl (ex_extract ((u36.past 17 rfl).trans (u35.here _ rfl)) rfl) ?_; intro a37 u37 z37
 refine sp z37 rfl rfl (ex_assign ((u37.past 24 rfl).trans (u36.here _ rfl))) ?_; intro a38 u38 z38
 refine sp z38 rfl rfl (ex_assign ((u38.past 25 rfl).trans (u37.here _ rfl))) ?_; intro a39 u39 z39
 have d40 := (u39.defs.trans (u38.defs.trans (u37.defs.trans (u36.defs.trans (u35.defs.trans (u34.defs.trans (u33.defs.trans (u32.defs.trans (u31.defs.trans (u30.defs.trans (u27.defs.trans d26)))))))))))
 refine seq_end ?_
 refine then_norm ?_
 refine wp_seq ?_
 refine seq_begin ?_
 refine sp z39 rfl rfl (ex_move ((u39.past 7 rfl).trans (u38.here _ rfl))) ?_; intro a41 u41 z41
 have p43 := fr4 u25.past u27.past u30.past u31.past
 have p44 := fr4 u32.past u33.past u34.past u35.past
 have p45 := fr4 u36.past u37.past u38.past u39.past
 refine sp z41 rfl rfl (ex_move ((u41.past 5 rfl).trans ((p45 5 rfl).trans ((p44 5 rfl).trans ((p43 5 rfl).trans (u24.here _ rfl)))))) ?_; intro a42 u42 z42
 refine sp z42 rfl rfl (exl_build (cons_parts ((u42.past 26 rfl).trans (u41.here _ rfl)) (cons_parts (u42.here _ rfl) nil_parts)) (bd_57_0Iu64_1Iu64 ((ch + dh + ((cl + dl + 0) / 18446744073709551616)) % 18446744073709551616) ((cl + dl + 0) % 18446744073709551616) _)) ?_; intro a46 u46 z46
 refine sstore (cs := [.int .u64 0, .int .u64 0]) (vs := [.int .u64 ((ch + dh + ((cl + dl + 0) / 18446744073709551616)) % 18446744073709551616), .int .u64 ((cl + dl + 0) % 18446744073709551616)]) (cs' := [.int .u64 ((ch + dh + ((cl + dl + 0) / 18446744073709551616)) % 18446744073709551616), .int .u64 ((cl + dl + 0) % 18446744073709551616)]) z46 rfl ((u46.past 4 rfl).trans ((u42.past 4 rfl).trans ((u41.past 4 rfl).trans ((p45 4 rfl).trans ((p44 4 rfl).trans ((p43 4 rfl).trans ((p29 4 rfl).trans ((p28 4 rfl).trans ((u14.past 4 rfl).trans (u7.here _ rfl)))))))))) (u46.here _ rfl) hb7 (Try.sizeOf57 _) rfl rfl (by decide) (Nat.le_of_ble_eq_true rfl) rfl rfl ?_; intro w47 a47 t47 u47 z47
 have d48 := (u47.defs.trans (u46.defs.trans (u42.defs.trans (u41.defs.trans d40))))
 refine seq_end ?_
 refine then_norm ?_
 refine wp_ret ?_
 have s49_4 : a7.eval (.tmp 4) = .pointer (some ⟨b7, 0, none⟩) := (u7.here _ rfl)
 have p51 := fr4 u41.past u42.past u46.past u47.past
 have s50_4 := ((p51 4 rfl).trans ((p45 4 rfl).trans ((p44 4 rfl).trans ((p43 4 rfl).trans ((p29 4 rfl).trans ((p28 4 rfl).trans ((u14.past 4 rfl).trans s49_4)))))))
 repeat (first | (with_reducible refine then_ret ?_) | (with_reducible refine block_ret ?_))
 refine retl (rs := [.cell 4 57]) Try.results112 ⟨⟨_, s50_4, run_loadVarA (cs := [.int .u64 ((ch + dh + ((cl + dl + 0) / 18446744073709551616)) % 18446744073709551616), .int .u64 ((cl + dl + 0) % 18446744073709551616)]) (Try.isAgg57 _) (Try.sizeOf57 _) (cells_of (off := 0) t47.here rfl)⟩, trivial⟩ d48 ?_
 have x52 := (Touch.turn (Touch.trans x12 (Ext.touch t7)) t47 (Or.inr yb7_11))
 exact ⟨by unfold wadd; rfl, x52.ext⟩

def hwith (hd : Int) (hs : Int) (hp : Int) (hsp : Int) (hdp : Int) (i : Int) (on : Bool) : Int × Int × Int × Int × Int := if (((decide (i < 0)) || (decide (104 ≤ i))) || ((hbit hd hs hp hsp hdp i) == on)) = true then (hd, hs, hp, hsp, hdp) else if i < 32 then (ibits .xor .u32 hd (IntKind.u32.wrap (1 * 2 ^ min (31 - i).toNat IntKind.u32.bits)), hs, hp, hsp, hdp) else if i < 64 then (hd, ibits .xor .u32 hs (IntKind.u32.wrap (1 * 2 ^ min (31 - (i - 32)).toNat IntKind.u32.bits)), hp, hsp, hdp) else if i < 72 then (hd, hs, ibits .xor .u8 hp (IntKind.u8.wrap (1 * 2 ^ min (7 - (i - 64)).toNat IntKind.u8.bits)), hsp, hdp) else if i < 88 then (hd, hs, hp, ibits .xor .u16 hsp (IntKind.u16.wrap (1 * 2 ^ min (15 - (i - 72)).toNat IntKind.u16.bits)), hdp) else (hd, hs, hp, hsp, ibits .xor .u16 hdp (IntKind.u16.wrap (1 * 2 ^ min (15 - (i - 88)).toNat IntKind.u16.bits)))
set_option maxRecDepth 100000 in
set_option maxHeartbeats 4000000 in
theorem c_hwith (hd : Int) (hs : Int) (hp : Int) (hsp : Int) (hdp : Int) (i : Int) (on : Bool) (w : World) : Calls Try.prog 113 #[.agg #[.int .u32 hd, .int .u32 hs, .int .u8 hp, .int .u16 hsp, .int .u16 hdp], .int .i64 i, .bool on] w fun e w' => e = .returned (.agg #[.int .u32 (hwith hd hs hp hsp hdp i on).1, .int .u32 (hwith hd hs hp hsp hdp i on).2.1, .int .u8 (hwith hd hs hp hsp hdp i on).2.2.1, .int .u16 (hwith hd hs hp hsp hdp i on).2.2.2.1, .int .u16 (hwith hd hs hp hsp hdp i on).2.2.2.2]) ∧ Ext w w' := by
 refine enter 73 Try.ntmps113 Try.func113 rfl (Nat.le_of_ble_eq_true rfl) fun a0 d0 z0 hargs => ?_
 have s0_0 : a0.eval (.tmp 0) = .agg #[.int .u32 hd, .int .u32 hs, .int .u8 hp, .int .u16 hsp, .int .u16 hdp] := hargs 0 _ rfl
 have s0_1 : a0.eval (.tmp 1) = .int .i64 i := hargs 1 _ rfl
 have s0_2 : a0.eval (.tmp 2) = .bool on := hargs 2 _ rfl
 have x0 := Touch.refl NoF w
 refine wp_seq ?_
 refine seq_begin ?_
 refine sbox z0 rfl s0_0 ?_; intro b1 w1 a1 t1 g1 hb1 u1 z1
 have yb1_2 := Nat.le_trans (Touch.size x0) g1
 refine salloc z1 rfl (zv_31 _) ?_; intro b3 w3 a3 t3 g3 hb3 u3 z3
 have n4_b1_b3 := ne_lt (lt_of hb1) g3
 have x6 := (Touch.trans x0 (Ext.touch t1))
 have yb3_5 := Nat.le_trans (Touch.size x6) g3
 have d7 := (u3.defs.trans (u1.defs.trans d0))
 refine seq_end ?_
 refine then_norm ?_
 refine wp_seq_k fun K8 hK8 => ?_
 refine wp_seq ?_
 refine seq_begin ?_
 refine sp z3 rfl rfl (ex_move ((u3.past 1 rfl).trans ((u1.past 1 rfl).trans s0_1))) ?_; intro a9 u9 z9
 refine sp z9 rfl rfl (ex_lss (u9.here _ rfl) rfl) ?_; intro a10 u10 z10
 refine sp z10 rfl rfl (ex_move (u10.here _ rfl)) ?_; intro a11 u11 z11
 have p13 := fr4 u1.past u3.past u9.past u10.past
 refine sg z11 rfl rfl rfl (u11.here _ rfl) (fun hcQ => ex_move ((u11.past 1 rfl).trans ((p13 1 rfl).trans s0_1))) ?_; intro a12 u12 z12
 refine sg z12 rfl rfl rfl ((u12.past 9 rfl).trans (u11.here _ rfl)) (fun hcQ => ex_geq ((u12.here _ rfl).trans (if_pos hcQ)) rfl) ?_; intro a14 u14 z14
 refine sp z14 rfl rfl (ex_pick_or ((u14.past 9 rfl).trans ((u12.past 9 rfl).trans (u11.here _ rfl))) rfl (u14.here _ rfl)) ?_; intro a15 u15 z15
 refine sp z15 rfl rfl (ex_move (u15.here _ rfl)) ?_; intro a16 u16 z16
 have p18 := fr4 u11.past u12.past u14.past u15.past
 have hb1_19 := (Ext.keep t3 hb1)
 refine sg z16 rfl rfl rfl (u16.here _ rfl) (fun hcQ => ex_loadAgg (cs := [.int .u32 hd, .int .u32 hs, .int .u8 hp, .int .u16 hsp, .int .u16 hdp]) ((u16.past 3 rfl).trans ((p18 3 rfl).trans ((u10.past 3 rfl).trans ((u9.past 3 rfl).trans ((u3.past 3 rfl).trans (u1.here _ rfl)))))) (Try.isAgg31 _) (Try.sizeOf31 _) (cells_of (off := 0) hb1_19 rfl)) ?_; intro a17 u17 z17
 refine sg z17 rfl rfl rfl ((u17.past 13 rfl).trans (u16.here _ rfl)) (fun hcQ => ex_move ((u17.past 1 rfl).trans ((u16.past 1 rfl).trans ((p18 1 rfl).trans ((p13 1 rfl).trans s0_1))))) ?_; intro a20 u20 z20
 refine scg z20 rfl rfl rfl ((u20.past 13 rfl).trans ((u17.past 13 rfl).trans (u16.here _ rfl))) (fun hcQ => exl_call Try.func61 rfl rfl (cons_ops (((u20.past 14 rfl).trans (u17.here _ rfl)).trans (if_pos hcQ)) (cons_ops ((u20.here _ rfl).trans (if_pos hcQ)) nil_ops))) (fun hcQ => c_hbit hd hs hp hsp hdp i  _) ?_; intro w21 a21 t21 u21 z21
 have p23 := fr4 u16.past u17.past u20.past u21.past
 refine sg z21 rfl rfl rfl ((u21.past 13 rfl).trans ((u20.past 13 rfl).trans ((u17.past 13 rfl).trans (u16.here _ rfl)))) (fun hcQ => ex_move ((p23 2 rfl).trans ((p18 2 rfl).trans ((p13 2 rfl).trans s0_2)))) ?_; intro a22 u22 z22
 refine sg z22 rfl rfl rfl ((u22.past 13 rfl).trans ((u21.past 13 rfl).trans ((u20.past 13 rfl).trans ((u17.past 13 rfl).trans (u16.here _ rfl))))) (fun hcQ => ex_eqlb Try.underlying4 (((u22.past 16 rfl).trans (u21.here _ rfl)).trans (if_pos hcQ)) ((u22.here _ rfl).trans (if_pos hcQ))) ?_; intro a24 u24 z24
 refine sp z24 rfl rfl (ex_pick_or ((u24.past 13 rfl).trans ((u22.past 13 rfl).trans ((u21.past 13 rfl).trans ((u20.past 13 rfl).trans ((u17.past 13 rfl).trans (u16.here _ rfl)))))) rfl (u24.here _ rfl)) ?_; intro a25 u25 z25
 have d26 := (u25.defs.trans (u24.defs.trans (u22.defs.trans (u21.defs.trans (u20.defs.trans (u17.defs.trans (u16.defs.trans (u15.defs.trans (u14.defs.trans (u12.defs.trans (u11.defs.trans (u10.defs.trans (u9.defs.trans d7)))))))))))))
 refine seq_end ?_
 refine then_norm ?_
 have x27 := (Touch.trans (Touch.trans x6 (Ext.touch t3)) (Ext.touch t21))
 rcases Bool.eq_false_or_eq_true (((decide (i < 0)) || (decide (104 ≤ i))) || ((hbit hd hs hp hsp hdp i) == on)) with y28 | y28
 ·have c28 := y28; try simp only [Bool.and_eq_true, Bool.or_eq_true, Bool.and_eq_false_iff, Bool.or_eq_false_iff, Bool.not_eq_true', Bool.not_eq_false', decide_eq_true_eq, decide_eq_false_iff_not] at c28
  have s29_19 : a25.eval (.tmp 19) = .bool (((decide (i < 0)) || (decide (104 ≤ i))) || ((hbit hd hs hp hsp hdp i) == on)) := (u25.here _ rfl)
  refine wp_cond_true (s29_19.trans (by rw [y28])) ?_
  refine wp_seq ?_
  refine seq_begin ?_
  have hb1_31 := (Ext.keep t21 hb1_19)
  refine sp z25 rfl rfl (ex_loadAgg (cs := [.int .u32 hd, .int .u32 hs, .int .u8 hp, .int .u16 hsp, .int .u16 hdp]) ((u25.past 3 rfl).trans ((u24.past 3 rfl).trans ((u22.past 3 rfl).trans ((p23 3 rfl).trans ((p18 3 rfl).trans ((u10.past 3 rfl).trans ((u9.past 3 rfl).trans ((u3.past 3 rfl).trans (u1.here _ rfl))))))))) (Try.isAgg31 _) (Try.sizeOf31 _) (cells_of (off := 0) hb1_31 rfl)) ?_; intro a30 u30 z30
  have p33 := fr4 u22.past u24.past u25.past u30.past
  have hb3_34 := (Ext.keep t21 hb3)
  refine sstore (cs := [.int .u32 0, .int .u32 0, .int .u8 0, .int .u16 0, .int .u16 0]) (vs := [.int .u32 hd, .int .u32 hs, .int .u8 hp, .int .u16 hsp, .int .u16 hdp]) (cs' := [.int .u32 hd, .int .u32 hs, .int .u8 hp, .int .u16 hsp, .int .u16 hdp]) z30 rfl ((p33 6 rfl).trans ((p23 6 rfl).trans ((p18 6 rfl).trans ((u10.past 6 rfl).trans ((u9.past 6 rfl).trans (u3.here _ rfl)))))) (u30.here _ rfl) hb3_34 (Try.sizeOf31 _) rfl rfl (by decide) (Nat.le_of_ble_eq_true rfl) rfl rfl ?_; intro w32 a32 t32 u32 z32
  have d35 := (u32.defs.trans (u30.defs.trans d26))
  refine seq_end ?_
  refine then_norm ?_
  refine wp_ret ?_
  have s36_6 : a3.eval (.tmp 6) = .pointer (some ⟨b3, 0, none⟩) := (u3.here _ rfl)
  have s37_6 := ((u32.past 6 rfl).trans ((p33 6 rfl).trans ((p23 6 rfl).trans ((p18 6 rfl).trans ((u10.past 6 rfl).trans ((u9.past 6 rfl).trans s36_6))))))
  repeat (first | (with_reducible refine then_ret ?_) | (with_reducible refine block_ret ?_))
  refine retl (rs := [.cell 6 31]) Try.results113 ⟨⟨_, s37_6, run_loadVarA (cs := [.int .u32 hd, .int .u32 hs, .int .u8 hp, .int .u16 hsp, .int .u16 hdp]) (Try.isAgg31 _) (Try.sizeOf31 _) (cells_of (off := 0) t32.here rfl)⟩, trivial⟩ d35 ?_
  have x38 := (Touch.turn x27 t32 (Or.inr yb3_5))
  exact ⟨by unfold hwith; rw [if_pos y28], x38.ext⟩
 ·have c28 := y28; try simp only [Bool.and_eq_true, Bool.or_eq_true, Bool.and_eq_false_iff, Bool.or_eq_false_iff, Bool.not_eq_true', Bool.not_eq_false', decide_eq_true_eq, decide_eq_false_iff_not] at c28
  have s39_19 : a25.eval (.tmp 19) = .bool (((decide (i < 0)) || (decide (104 ≤ i))) || ((hbit hd hs hp hsp hdp i) == on)) := (u25.here _ rfl)
  refine wp_cond_false (s39_19.trans (by rw [y28])) ?_
  refine wp_skip ?_
  repeat (with_reducible refine block_norm ?_)
  refine hK8 _ _ ?_
  refine wp_seq_k fun K40 hK40 => ?_
  refine wp_block ?_
  have s41_1 := ((u25.past 1 rfl).trans ((u24.past 1 rfl).trans ((u22.past 1 rfl).trans ((p23 1 rfl).trans ((p18 1 rfl).trans ((p13 1 rfl).trans s0_1))))))
  refine rgs mixed 73 [.eq (.int .i64 i), .eq (.bool (decide (i < 32))), .eq (.bool (decide (i < 32)))] [[(1, none)], [(30, some 0)], [(31, some 1)]] d26 z25 (by kernel_rfl) ⟨Ov rfl rfl fun _ _ T ⟨k1, _⟩ => ex_move (k1.trans s41_1), Ov rfl rfl fun _ _ T ⟨k30, _⟩ => ex_lss k30 rfl, Ov rfl rfl fun _ _ T ⟨k31, _⟩ => ex_assign k31, trivial⟩ ?_
  intro a42 w42 d42 z42 t42 e42 q42
  by_cases c43 : i < 32
  ·have y43 := decide_eq_true c43
   have s44_29 : a42.eval (.tmp 29) = .bool (decide (i < 32)) := e42.2.2.1
   refine wp_cond_true (s44_29.trans (by rw [y43])) ?_
   have s45_3 : a1.eval (.tmp 3) = .pointer (some ⟨b1, 0, none⟩) := (u1.here _ rfl)
   have p47 := fr4 u22.past u24.past u25.past q42
   have s46_3 := ((p47 3 rfl).trans ((p23 3 rfl).trans ((p18 3 rfl).trans ((u10.past 3 rfl).trans ((u9.past 3 rfl).trans ((u3.past 3 rfl).trans s45_3))))))
   have hb1_48 := (Ext.keep t42 (Ext.keep t21 hb1_19))
   have s49_1 := ((q42 1 rfl).trans s41_1)
   refine rt mixed 73 b1 7 _ [.eq (.pointer (some ⟨b1, 0, none⟩)), .eq (.int .u32 hd), .eq (.int .i64 i), .eq (.int .i64 (31 - i)), .eq (.int .u32 (IntKind.u32.wrap (1 * 2 ^ min (31 - i).toNat IntKind.u32.bits))), .eq (.int .u32 (ibits .xor .u32 hd (IntKind.u32.wrap (1 * 2 ^ min (31 - i).toNat IntKind.u32.bits)))), .eq (.pointer (some ⟨b1, 0, none⟩)), .any] [[(3, none)], [(32, some 0)], [(1, none)], [(34, some 2)], [(35, some 3)], [(33, some 1), (36, some 4)], [(3, none)], [(38, some 6), (37, some 5)]] d42 z42 (by kernel_rfl) rfl ⟨Oh rfl (by kernel_rfl) rfl fun _ _ T ⟨k3, _⟩ => ex_fieldAddr (k3.trans s46_3) (fa_31_0 _ _ _),
    Oh rfl (by kernel_rfl) rfl fun _ _ T ⟨k32, _⟩ => ex_load k32 (Try.isAgg22 _) (cell_of (Ext.keep T hb1_48) rfl),
    Oh rfl (by kernel_rfl) rfl fun _ _ T ⟨k1, _⟩ => ex_move (k1.trans s49_1),
    Oh rfl (by kernel_rfl) rfl fun _ _ T ⟨k34, _⟩ => ex_sub64 rfl k34 (by omega),
    Oh rfl (by kernel_rfl) rfl fun _ _ T ⟨k35, _⟩ => ex_shl rfl k35 (by omega),
    Oh rfl (by kernel_rfl) rfl fun _ _ T ⟨k33, k36, _⟩ => ex_xor k33 k36,
    Oh rfl (by kernel_rfl) rfl fun _ _ T ⟨k3, _⟩ => ex_fieldAddr (k3.trans s46_3) (fa_31_0 _ _ _),
    Ot (cs := [.int .u32 hd, .int .u32 hs, .int .u8 hp, .int .u16 hsp, .int .u16 hdp]) (vs := [.int .u32 (ibits .xor .u32 hd (IntKind.u32.wrap (1 * 2 ^ min (31 - i).toNat IntKind.u32.bits)))]) (cs' := [.int .u32 (ibits .xor .u32 hd (IntKind.u32.wrap (1 * 2 ^ min (31 - i).toNat IntKind.u32.bits))), .int .u32 hs, .int .u8 hp, .int .u16 hsp, .int .u16 hdp]) (by kernel_rfl) hb1_48 Try.sizeOf22 rfl rfl (by decide) (Nat.le_of_ble_eq_true rfl) rfl rfl fun _ _ T ⟨k38, k37, _⟩ => ⟨k38, k37⟩,
    trivial⟩ ?_
   intro a50 w50 d50 z50 t50 e50 q50
   repeat (with_reducible refine block_norm ?_)
   refine hK40 _ _ ?_
   refine wp_seq ?_
   refine seq_begin ?_
   refine sp z50 rfl rfl (ex_loadAgg (cs := [.int .u32 (ibits .xor .u32 hd (IntKind.u32.wrap (1 * 2 ^ min (31 - i).toNat IntKind.u32.bits))), .int .u32 hs, .int .u8 hp, .int .u16 hsp, .int .u16 hdp]) ((q50 3 rfl).trans s46_3) (Try.isAgg31 _) (Try.sizeOf31 _) (cells_of (off := 0) t50.here rfl)) ?_; intro a51 u51 z51
   have hb3_53 := (Turn.keep t50 (Ext.keep t42 (Ext.keep t21 hb3)) (Ne.symm n4_b1_b3))
   refine sstore (cs := [.int .u32 0, .int .u32 0, .int .u8 0, .int .u16 0, .int .u16 0]) (vs := [.int .u32 (ibits .xor .u32 hd (IntKind.u32.wrap (1 * 2 ^ min (31 - i).toNat IntKind.u32.bits))), .int .u32 hs, .int .u8 hp, .int .u16 hsp, .int .u16 hdp]) (cs' := [.int .u32 (ibits .xor .u32 hd (IntKind.u32.wrap (1 * 2 ^ min (31 - i).toNat IntKind.u32.bits))), .int .u32 hs, .int .u8 hp, .int .u16 hsp, .int .u16 hdp]) z51 rfl ((u51.past 6 rfl).trans ((q50 6 rfl).trans ((p47 6 rfl).trans ((p23 6 rfl).trans ((p18 6 rfl).trans ((u10.past 6 rfl).trans ((u9.past 6 rfl).trans (u3.here _ rfl)))))))) (u51.here _ rfl) hb3_53 (Try.sizeOf31 _) rfl rfl (by decide) (Nat.le_of_ble_eq_true rfl) rfl rfl ?_; intro w52 a52 t52 u52 z52
   have d54 := (u52.defs.trans (u51.defs.trans d50))
   refine seq_end ?_
   refine then_norm ?_
   refine wp_ret ?_
   have s55_6 : a3.eval (.tmp 6) = .pointer (some ⟨b3, 0, none⟩) := (u3.here _ rfl)
   have s56_6 := ((u52.past 6 rfl).trans ((u51.past 6 rfl).trans ((q50 6 rfl).trans ((p47 6 rfl).trans ((p23 6 rfl).trans ((p18 6 rfl).trans ((u10.past 6 rfl).trans ((u9.past 6 rfl).trans s55_6))))))))
   repeat (first | (with_reducible refine then_ret ?_) | (with_reducible refine block_ret ?_))
   refine retl (rs := [.cell 6 31]) Try.results113 ⟨⟨_, s56_6, run_loadVarA (cs := [.int .u32 (ibits .xor .u32 hd (IntKind.u32.wrap (1 * 2 ^ min (31 - i).toNat IntKind.u32.bits))), .int .u32 hs, .int .u8 hp, .int .u16 hsp, .int .u16 hdp]) (Try.isAgg31 _) (Try.sizeOf31 _) (cells_of (off := 0) t52.here rfl)⟩, trivial⟩ d54 ?_
   have x57 := (Touch.turn (Touch.turn (Touch.trans x27 (Ext.touch t42)) t50 (Or.inr yb1_2)) t52 (Or.inr yb3_5))
   exact ⟨by unfold hwith; rw [if_neg (by rw [y28]; decide), if_pos c43], x57.ext⟩
  ·have y43 := decide_eq_false c43
   have s58_29 : a42.eval (.tmp 29) = .bool (decide (i < 32)) := e42.2.2.1
   refine wp_cond_false (s58_29.trans (by rw [y43])) ?_
   have s59_1 := ((q42 1 rfl).trans s41_1)
   refine rgs mixed 73 [.eq (.int .i64 i), .eq (.bool (decide (i < 64))), .eq (.bool (decide (i < 64)))] [[(1, none)], [(40, some 0)], [(41, some 1)]] d42 z42 (by kernel_rfl) ⟨Ov rfl rfl fun _ _ T ⟨k1, _⟩ => ex_move (k1.trans s59_1), Ov rfl rfl fun _ _ T ⟨k40, _⟩ => ex_lss k40 rfl, Ov rfl rfl fun _ _ T ⟨k41, _⟩ => ex_assign k41, trivial⟩ ?_
   intro a60 w60 d60 z60 t60 e60 q60
   have hb1_61 := (Ext.keep t60 (Ext.keep t42 (Ext.keep t21 hb1_19)))
   have hb3_62 := (Ext.keep t60 (Ext.keep t42 (Ext.keep t21 hb3)))
   have x63 := (Touch.trans (Touch.trans x27 (Ext.touch t42)) (Ext.touch t60))
   by_cases c64 : i < 64
   ·have y64 := decide_eq_true c64
    have s65_39 : a60.eval (.tmp 39) = .bool (decide (i < 64)) := e60.2.2.1
    refine wp_cond_true (s65_39.trans (by rw [y64])) ?_
    have s66_3 : a1.eval (.tmp 3) = .pointer (some ⟨b1, 0, none⟩) := (u1.here _ rfl)
    have p68 := fr4 u22.past u24.past u25.past q42
    have s67_3 := ((q60 3 rfl).trans ((p68 3 rfl).trans ((p23 3 rfl).trans ((p18 3 rfl).trans ((u10.past 3 rfl).trans ((u9.past 3 rfl).trans ((u3.past 3 rfl).trans s66_3)))))))
    have s69_1 := ((q60 1 rfl).trans s59_1)
    refine rt mixed 73 b1 8 _ [.eq (.pointer (some ⟨b1, 1, none⟩)), .eq (.int .u32 hs), .eq (.int .i64 i), .eq (.int .i64 (i - 32)), .eq (.int .i64 (31 - (i - 32))), .eq (.int .u32 (IntKind.u32.wrap (1 * 2 ^ min (31 - (i - 32)).toNat IntKind.u32.bits))), .eq (.int .u32 (ibits .xor .u32 hs (IntKind.u32.wrap (1 * 2 ^ min (31 - (i - 32)).toNat IntKind.u32.bits)))), .eq (.pointer (some ⟨b1, 1, none⟩)), .any] [[(3, none)], [(42, some 0)], [(1, none)], [(44, some 2)], [(45, some 3)], [(46, some 4)], [(43, some 1), (47, some 5)], [(3, none)], [(49, some 7), (48, some 6)]] d60 z60 (by kernel_rfl) rfl ⟨Oh rfl (by kernel_rfl) rfl fun _ _ T ⟨k3, _⟩ => ex_fieldAddr (k3.trans s67_3) (fa_31_1 _ _ _),
     Oh rfl (by kernel_rfl) rfl fun _ _ T ⟨k42, _⟩ => ex_load k42 (Try.isAgg22 _) (cell_of (Ext.keep T hb1_61) rfl),
     Oh rfl (by kernel_rfl) rfl fun _ _ T ⟨k1, _⟩ => ex_move (k1.trans s69_1),
     Oh rfl (by kernel_rfl) rfl fun _ _ T ⟨k44, _⟩ => ex_sub64 k44 rfl (by omega),
     Oh rfl (by kernel_rfl) rfl fun _ _ T ⟨k45, _⟩ => ex_sub64 rfl k45 (by omega),
     Oh rfl (by kernel_rfl) rfl fun _ _ T ⟨k46, _⟩ => ex_shl rfl k46 (by omega),
     Oh rfl (by kernel_rfl) rfl fun _ _ T ⟨k43, k47, _⟩ => ex_xor k43 k47,
     Oh rfl (by kernel_rfl) rfl fun _ _ T ⟨k3, _⟩ => ex_fieldAddr (k3.trans s67_3) (fa_31_1 _ _ _),
     Ot (cs := [.int .u32 hd, .int .u32 hs, .int .u8 hp, .int .u16 hsp, .int .u16 hdp]) (vs := [.int .u32 (ibits .xor .u32 hs (IntKind.u32.wrap (1 * 2 ^ min (31 - (i - 32)).toNat IntKind.u32.bits)))]) (cs' := [.int .u32 hd, .int .u32 (ibits .xor .u32 hs (IntKind.u32.wrap (1 * 2 ^ min (31 - (i - 32)).toNat IntKind.u32.bits))), .int .u8 hp, .int .u16 hsp, .int .u16 hdp]) (by kernel_rfl) hb1_61 Try.sizeOf22 rfl rfl (by decide) (Nat.le_of_ble_eq_true rfl) rfl rfl fun _ _ T ⟨k49, k48, _⟩ => ⟨k49, k48⟩,
     trivial⟩ ?_
    intro a70 w70 d70 z70 t70 e70 q70
    repeat (with_reducible refine block_norm ?_)
    refine hK40 _ _ ?_
    refine wp_seq ?_
    refine seq_begin ?_
    refine sp z70 rfl rfl (ex_loadAgg (cs := [.int .u32 hd, .int .u32 (ibits .xor .u32 hs (IntKind.u32.wrap (1 * 2 ^ min (31 - (i - 32)).toNat IntKind.u32.bits))), .int .u8 hp, .int .u16 hsp, .int .u16 hdp]) ((q70 3 rfl).trans s67_3) (Try.isAgg31 _) (Try.sizeOf31 _) (cells_of (off := 0) t70.here rfl)) ?_; intro a71 u71 z71
    have hb3_73 := (Turn.keep t70 hb3_62 (Ne.symm n4_b1_b3))
    refine sstore (cs := [.int .u32 0, .int .u32 0, .int .u8 0, .int .u16 0, .int .u16 0]) (vs := [.int .u32 hd, .int .u32 (ibits .xor .u32 hs (IntKind.u32.wrap (1 * 2 ^ min (31 - (i - 32)).toNat IntKind.u32.bits))), .int .u8 hp, .int .u16 hsp, .int .u16 hdp]) (cs' := [.int .u32 hd, .int .u32 (ibits .xor .u32 hs (IntKind.u32.wrap (1 * 2 ^ min (31 - (i - 32)).toNat IntKind.u32.bits))), .int .u8 hp, .int .u16 hsp, .int .u16 hdp]) z71 rfl ((u71.past 6 rfl).trans ((q70 6 rfl).trans ((q60 6 rfl).trans ((p68 6 rfl).trans ((p23 6 rfl).trans ((p18 6 rfl).trans ((u10.past 6 rfl).trans ((u9.past 6 rfl).trans (u3.here _ rfl))))))))) (u71.here _ rfl) hb3_73 (Try.sizeOf31 _) rfl rfl (by decide) (Nat.le_of_ble_eq_true rfl) rfl rfl ?_; intro w72 a72 t72 u72 z72
    have d74 := (u72.defs.trans (u71.defs.trans d70))
    refine seq_end ?_
    refine then_norm ?_
    refine wp_ret ?_
    have s75_6 : a3.eval (.tmp 6) = .pointer (some ⟨b3, 0, none⟩) := (u3.here _ rfl)
    have p77 := fr4 q60 q70 u71.past u72.past
    have s76_6 := ((p77 6 rfl).trans ((p68 6 rfl).trans ((p23 6 rfl).trans ((p18 6 rfl).trans ((u10.past 6 rfl).trans ((u9.past 6 rfl).trans s75_6))))))
    repeat (first | (with_reducible refine then_ret ?_) | (with_reducible refine block_ret ?_))
    refine retl (rs := [.cell 6 31]) Try.results113 ⟨⟨_, s76_6, run_loadVarA (cs := [.int .u32 hd, .int .u32 (ibits .xor .u32 hs (IntKind.u32.wrap (1 * 2 ^ min (31 - (i - 32)).toNat IntKind.u32.bits))), .int .u8 hp, .int .u16 hsp, .int .u16 hdp]) (Try.isAgg31 _) (Try.sizeOf31 _) (cells_of (off := 0) t72.here rfl)⟩, trivial⟩ d74 ?_
    have x78 := (Touch.turn (Touch.turn x63 t70 (Or.inr yb1_2)) t72 (Or.inr yb3_5))
    exact ⟨by unfold hwith; rw [if_neg (by rw [y28]; decide), if_neg c43, if_pos c64], x78.ext⟩
   ·have y64 := decide_eq_false c64
    have s79_39 : a60.eval (.tmp 39) = .bool (decide (i < 64)) := e60.2.2.1
    refine wp_cond_false (s79_39.trans (by rw [y64])) ?_
    have s80_1 := ((q60 1 rfl).trans s59_1)
    refine rgs mixed 73 [.eq (.int .i64 i), .eq (.bool (decide (i < 72))), .eq (.bool (decide (i < 72)))] [[(1, none)], [(51, some 0)], [(52, some 1)]] d60 z60 (by kernel_rfl) ⟨Ov rfl rfl fun _ _ T ⟨k1, _⟩ => ex_move (k1.trans s80_1), Ov rfl rfl fun _ _ T ⟨k51, _⟩ => ex_lss k51 rfl, Ov rfl rfl fun _ _ T ⟨k52, _⟩ => ex_assign k52, trivial⟩ ?_
    intro a81 w81 d81 z81 t81 e81 q81
    by_cases c82 : i < 72
    ·have y82 := decide_eq_true c82
     have s83_50 : a81.eval (.tmp 50) = .bool (decide (i < 72)) := e81.2.2.1
     refine wp_cond_true (s83_50.trans (by rw [y82])) ?_
     have s84_3 : a1.eval (.tmp 3) = .pointer (some ⟨b1, 0, none⟩) := (u1.here _ rfl)
     have p86 := fr4 u22.past u24.past u25.past q42
     have s85_3 := ((q81 3 rfl).trans ((q60 3 rfl).trans ((p86 3 rfl).trans ((p23 3 rfl).trans ((p18 3 rfl).trans ((u10.past 3 rfl).trans ((u9.past 3 rfl).trans ((u3.past 3 rfl).trans s84_3))))))))
     have hb1_87 := (Ext.keep t81 hb1_61)
     have s88_1 := ((q81 1 rfl).trans s80_1)
     refine rt mixed 73 b1 8 _ [.eq (.pointer (some ⟨b1, 2, none⟩)), .eq (.int .u8 hp), .eq (.int .i64 i), .eq (.int .i64 (i - 64)), .eq (.int .i64 (7 - (i - 64))), .eq (.int .u8 (IntKind.u8.wrap (1 * 2 ^ min (7 - (i - 64)).toNat IntKind.u8.bits))), .eq (.int .u8 (ibits .xor .u8 hp (IntKind.u8.wrap (1 * 2 ^ min (7 - (i - 64)).toNat IntKind.u8.bits)))), .eq (.pointer (some ⟨b1, 2, none⟩)), .any] [[(3, none)], [(53, some 0)], [(1, none)], [(55, some 2)], [(56, some 3)], [(57, some 4)], [(54, some 1), (58, some 5)], [(3, none)], [(60, some 7), (59, some 6)]] d81 z81 (by kernel_rfl) rfl ⟨Oh rfl (by kernel_rfl) rfl fun _ _ T ⟨k3, _⟩ => ex_fieldAddr (k3.trans s85_3) (fa_31_2 _ _ _),
      Oh rfl (by kernel_rfl) rfl fun _ _ T ⟨k53, _⟩ => ex_load k53 (Try.isAgg5 _) (cell_of (Ext.keep T hb1_87) rfl),
      Oh rfl (by kernel_rfl) rfl fun _ _ T ⟨k1, _⟩ => ex_move (k1.trans s88_1),
      Oh rfl (by kernel_rfl) rfl fun _ _ T ⟨k55, _⟩ => ex_sub64 k55 rfl (by omega),
      Oh rfl (by kernel_rfl) rfl fun _ _ T ⟨k56, _⟩ => ex_sub64 rfl k56 (by omega),
      Oh rfl (by kernel_rfl) rfl fun _ _ T ⟨k57, _⟩ => ex_shl rfl k57 (by omega),
      Oh rfl (by kernel_rfl) rfl fun _ _ T ⟨k54, k58, _⟩ => ex_xor k54 k58,
      Oh rfl (by kernel_rfl) rfl fun _ _ T ⟨k3, _⟩ => ex_fieldAddr (k3.trans s85_3) (fa_31_2 _ _ _),
      Ot (cs := [.int .u32 hd, .int .u32 hs, .int .u8 hp, .int .u16 hsp, .int .u16 hdp]) (vs := [.int .u8 (ibits .xor .u8 hp (IntKind.u8.wrap (1 * 2 ^ min (7 - (i - 64)).toNat IntKind.u8.bits)))]) (cs' := [.int .u32 hd, .int .u32 hs, .int .u8 (ibits .xor .u8 hp (IntKind.u8.wrap (1 * 2 ^ min (7 - (i - 64)).toNat IntKind.u8.bits))), .int .u16 hsp, .int .u16 hdp]) (by kernel_rfl) hb1_87 Try.sizeOf5 rfl rfl (by decide) (Nat.le_of_ble_eq_true rfl) rfl rfl fun _ _ T ⟨k60, k59, _⟩ => ⟨k60, k59⟩,
      trivial⟩ ?_
     intro a89 w89 d89 z89 t89 e89 q89
     repeat (with_reducible refine block_norm ?_)
     refine hK40 _ _ ?_
     refine wp_seq ?_
     refine seq_begin ?_
     refine sp z89 rfl rfl (ex_loadAgg (cs := [.int .u32 hd, .int .u32 hs, .int .u8 (ibits .xor .u8 hp (IntKind.u8.wrap (1 * 2 ^ min (7 - (i - 64)).toNat IntKind.u8.bits))), .int .u16 hsp, .int .u16 hdp]) ((q89 3 rfl).trans s85_3) (Try.isAgg31 _) (Try.sizeOf31 _) (cells_of (off := 0) t89.here rfl)) ?_; intro a90 u90 z90
     have p92 := fr4 q60 q81 q89 u90.past
     have hb3_93 := (Turn.keep t89 (Ext.keep t81 hb3_62) (Ne.symm n4_b1_b3))
     refine sstore (cs := [.int .u32 0, .int .u32 0, .int .u8 0, .int .u16 0, .int .u16 0]) (vs := [.int .u32 hd, .int .u32 hs, .int .u8 (ibits .xor .u8 hp (IntKind.u8.wrap (1 * 2 ^ min (7 - (i - 64)).toNat IntKind.u8.bits))), .int .u16 hsp, .int .u16 hdp]) (cs' := [.int .u32 hd, .int .u32 hs, .int .u8 (ibits .xor .u8 hp (IntKind.u8.wrap (1 * 2 ^ min (7 - (i - 64)).toNat IntKind.u8.bits))), .int .u16 hsp, .int .u16 hdp]) z90 rfl ((p92 6 rfl).trans ((p86 6 rfl).trans ((p23 6 rfl).trans ((p18 6 rfl).trans ((u10.past 6 rfl).trans ((u9.past 6 rfl).trans (u3.here _ rfl))))))) (u90.here _ rfl) hb3_93 (Try.sizeOf31 _) rfl rfl (by decide) (Nat.le_of_ble_eq_true rfl) rfl rfl ?_; intro w91 a91 t91 u91 z91
     have d94 := (u91.defs.trans (u90.defs.trans d89))
     refine seq_end ?_
     refine then_norm ?_
     refine wp_ret ?_
     have s95_6 : a3.eval (.tmp 6) = .pointer (some ⟨b3, 0, none⟩) := (u3.here _ rfl)
     have s96_6 := ((u91.past 6 rfl).trans ((p92 6 rfl).trans ((p86 6 rfl).trans ((p23 6 rfl).trans ((p18 6 rfl).trans ((u10.past 6 rfl).trans ((u9.past 6 rfl).trans s95_6)))))))
     repeat (first | (with_reducible refine then_ret ?_) | (with_reducible refine block_ret ?_))
     refine retl (rs := [.cell 6 31]) Try.results113 ⟨⟨_, s96_6, run_loadVarA (cs := [.int .u32 hd, .int .u32 hs, .int .u8 (ibits .xor .u8 hp (IntKind.u8.wrap (1 * 2 ^ min (7 - (i - 64)).toNat IntKind.u8.bits))), .int .u16 hsp, .int .u16 hdp]) (Try.isAgg31 _) (Try.sizeOf31 _) (cells_of (off := 0) t91.here rfl)⟩, trivial⟩ d94 ?_
     have x97 := (Touch.turn (Touch.turn (Touch.trans x63 (Ext.touch t81)) t89 (Or.inr yb1_2)) t91 (Or.inr yb3_5))
     exact ⟨by unfold hwith; rw [if_neg (by rw [y28]; decide), if_neg c43, if_neg c64, if_pos c82], x97.ext⟩
    ·have y82 := decide_eq_false c82
     have s98_50 : a81.eval (.tmp 50) = .bool (decide (i < 72)) := e81.2.2.1
     refine wp_cond_false (s98_50.trans (by rw [y82])) ?_
     have s99_1 := ((q81 1 rfl).trans s80_1)
     refine rgs mixed 73 [.eq (.int .i64 i), .eq (.bool (decide (i < 88))), .eq (.bool (decide (i < 88)))] [[(1, none)], [(62, some 0)], [(63, some 1)]] d81 z81 (by kernel_rfl) ⟨Ov rfl rfl fun _ _ T ⟨k1, _⟩ => ex_move (k1.trans s99_1), Ov rfl rfl fun _ _ T ⟨k62, _⟩ => ex_lss k62 rfl, Ov rfl rfl fun _ _ T ⟨k63, _⟩ => ex_assign k63, trivial⟩ ?_
     intro a100 w100 d100 z100 t100 e100 q100
     have x101 := (Touch.trans (Touch.trans x63 (Ext.touch t81)) (Ext.touch t100))
     by_cases c102 : i < 88
     ·have y102 := decide_eq_true c102
      have s103_61 : a100.eval (.tmp 61) = .bool (decide (i < 88)) := e100.2.2.1
      refine wp_cond_true (s103_61.trans (by rw [y102])) ?_
      have s104_3 : a1.eval (.tmp 3) = .pointer (some ⟨b1, 0, none⟩) := (u1.here _ rfl)
      have p106 := fr4 u22.past u24.past u25.past q42
      have s105_3 := ((q100 3 rfl).trans ((q81 3 rfl).trans ((q60 3 rfl).trans ((p106 3 rfl).trans ((p23 3 rfl).trans ((p18 3 rfl).trans ((u10.past 3 rfl).trans ((u9.past 3 rfl).trans ((u3.past 3 rfl).trans s104_3)))))))))
      have hb1_107 := (Ext.keep t100 (Ext.keep t81 hb1_61))
      have s108_1 := ((q100 1 rfl).trans s99_1)
      refine rt mixed 73 b1 8 _ [.eq (.pointer (some ⟨b1, 3, none⟩)), .eq (.int .u16 hsp), .eq (.int .i64 i), .eq (.int .i64 (i - 72)), .eq (.int .i64 (15 - (i - 72))), .eq (.int .u16 (IntKind.u16.wrap (1 * 2 ^ min (15 - (i - 72)).toNat IntKind.u16.bits))), .eq (.int .u16 (ibits .xor .u16 hsp (IntKind.u16.wrap (1 * 2 ^ min (15 - (i - 72)).toNat IntKind.u16.bits)))), .eq (.pointer (some ⟨b1, 3, none⟩)), .any] [[(3, none)], [(64, some 0)], [(1, none)], [(66, some 2)], [(67, some 3)], [(68, some 4)], [(65, some 1), (69, some 5)], [(3, none)], [(71, some 7), (70, some 6)]] d100 z100 (by kernel_rfl) rfl ⟨Oh rfl (by kernel_rfl) rfl fun _ _ T ⟨k3, _⟩ => ex_fieldAddr (k3.trans s105_3) (fa_31_3 _ _ _),
       Oh rfl (by kernel_rfl) rfl fun _ _ T ⟨k64, _⟩ => ex_load k64 (Try.isAgg25 _) (cell_of (Ext.keep T hb1_107) rfl),
       Oh rfl (by kernel_rfl) rfl fun _ _ T ⟨k1, _⟩ => ex_move (k1.trans s108_1),
       Oh rfl (by kernel_rfl) rfl fun _ _ T ⟨k66, _⟩ => ex_sub64 k66 rfl (by omega),
       Oh rfl (by kernel_rfl) rfl fun _ _ T ⟨k67, _⟩ => ex_sub64 rfl k67 (by omega),
       Oh rfl (by kernel_rfl) rfl fun _ _ T ⟨k68, _⟩ => ex_shl rfl k68 (by omega),
       Oh rfl (by kernel_rfl) rfl fun _ _ T ⟨k65, k69, _⟩ => ex_xor k65 k69,
       Oh rfl (by kernel_rfl) rfl fun _ _ T ⟨k3, _⟩ => ex_fieldAddr (k3.trans s105_3) (fa_31_3 _ _ _),
       Ot (cs := [.int .u32 hd, .int .u32 hs, .int .u8 hp, .int .u16 hsp, .int .u16 hdp]) (vs := [.int .u16 (ibits .xor .u16 hsp (IntKind.u16.wrap (1 * 2 ^ min (15 - (i - 72)).toNat IntKind.u16.bits)))]) (cs' := [.int .u32 hd, .int .u32 hs, .int .u8 hp, .int .u16 (ibits .xor .u16 hsp (IntKind.u16.wrap (1 * 2 ^ min (15 - (i - 72)).toNat IntKind.u16.bits))), .int .u16 hdp]) (by kernel_rfl) hb1_107 Try.sizeOf25 rfl rfl (by decide) (Nat.le_of_ble_eq_true rfl) rfl rfl fun _ _ T ⟨k71, k70, _⟩ => ⟨k71, k70⟩,
       trivial⟩ ?_
      intro a109 w109 d109 z109 t109 e109 q109
      repeat (with_reducible refine block_norm ?_)
      refine hK40 _ _ ?_
      refine wp_seq ?_
      refine seq_begin ?_
      refine sp z109 rfl rfl (ex_loadAgg (cs := [.int .u32 hd, .int .u32 hs, .int .u8 hp, .int .u16 (ibits .xor .u16 hsp (IntKind.u16.wrap (1 * 2 ^ min (15 - (i - 72)).toNat IntKind.u16.bits))), .int .u16 hdp]) ((q109 3 rfl).trans s105_3) (Try.isAgg31 _) (Try.sizeOf31 _) (cells_of (off := 0) t109.here rfl)) ?_; intro a110 u110 z110
      have p112 := fr4 q60 q81 q100 q109
      have hb3_113 := (Turn.keep t109 (Ext.keep t100 (Ext.keep t81 hb3_62)) (Ne.symm n4_b1_b3))
      refine sstore (cs := [.int .u32 0, .int .u32 0, .int .u8 0, .int .u16 0, .int .u16 0]) (vs := [.int .u32 hd, .int .u32 hs, .int .u8 hp, .int .u16 (ibits .xor .u16 hsp (IntKind.u16.wrap (1 * 2 ^ min (15 - (i - 72)).toNat IntKind.u16.bits))), .int .u16 hdp]) (cs' := [.int .u32 hd, .int .u32 hs, .int .u8 hp, .int .u16 (ibits .xor .u16 hsp (IntKind.u16.wrap (1 * 2 ^ min (15 - (i - 72)).toNat IntKind.u16.bits))), .int .u16 hdp]) z110 rfl ((u110.past 6 rfl).trans ((p112 6 rfl).trans ((p106 6 rfl).trans ((p23 6 rfl).trans ((p18 6 rfl).trans ((u10.past 6 rfl).trans ((u9.past 6 rfl).trans (u3.here _ rfl)))))))) (u110.here _ rfl) hb3_113 (Try.sizeOf31 _) rfl rfl (by decide) (Nat.le_of_ble_eq_true rfl) rfl rfl ?_; intro w111 a111 t111 u111 z111
      have d114 := (u111.defs.trans (u110.defs.trans d109))
      refine seq_end ?_
      refine then_norm ?_
      refine wp_ret ?_
      have s115_6 : a3.eval (.tmp 6) = .pointer (some ⟨b3, 0, none⟩) := (u3.here _ rfl)
      have s116_6 := ((u111.past 6 rfl).trans ((u110.past 6 rfl).trans ((p112 6 rfl).trans ((p106 6 rfl).trans ((p23 6 rfl).trans ((p18 6 rfl).trans ((u10.past 6 rfl).trans ((u9.past 6 rfl).trans s115_6))))))))
      repeat (first | (with_reducible refine then_ret ?_) | (with_reducible refine block_ret ?_))
      refine retl (rs := [.cell 6 31]) Try.results113 ⟨⟨_, s116_6, run_loadVarA (cs := [.int .u32 hd, .int .u32 hs, .int .u8 hp, .int .u16 (ibits .xor .u16 hsp (IntKind.u16.wrap (1 * 2 ^ min (15 - (i - 72)).toNat IntKind.u16.bits))), .int .u16 hdp]) (Try.isAgg31 _) (Try.sizeOf31 _) (cells_of (off := 0) t111.here rfl)⟩, trivial⟩ d114 ?_
      have x117 := (Touch.turn (Touch.turn x101 t109 (Or.inr yb1_2)) t111 (Or.inr yb3_5))
      exact ⟨by unfold hwith; rw [if_neg (by rw [y28]; decide), if_neg c43, if_neg c64, if_neg c82, if_pos c102], x117.ext⟩
     ·have y102 := decide_eq_false c102
      have s118_61 : a100.eval (.tmp 61) = .bool (decide (i < 88)) := e100.2.2.1
      refine wp_cond_false (s118_61.trans (by rw [y102])) ?_
      have s119_3 : a1.eval (.tmp 3) = .pointer (some ⟨b1, 0, none⟩) := (u1.here _ rfl)
      have p121 := fr4 u22.past u24.past u25.past q42
      have s120_3 := ((q100 3 rfl).trans ((q81 3 rfl).trans ((q60 3 rfl).trans ((p121 3 rfl).trans ((p23 3 rfl).trans ((p18 3 rfl).trans ((u10.past 3 rfl).trans ((u9.past 3 rfl).trans ((u3.past 3 rfl).trans s119_3)))))))))
      have hb1_122 := (Ext.keep t100 (Ext.keep t81 hb1_61))
      have s123_1 := ((q100 1 rfl).trans s99_1)
      refine rt mixed 73 b1 8 _ [.eq (.pointer (some ⟨b1, 4, none⟩)), .eq (.int .u16 hdp), .eq (.int .i64 i), .eq (.int .i64 (i - 88)), .eq (.int .i64 (15 - (i - 88))), .eq (.int .u16 (IntKind.u16.wrap (1 * 2 ^ min (15 - (i - 88)).toNat IntKind.u16.bits))), .eq (.int .u16 (ibits .xor .u16 hdp (IntKind.u16.wrap (1 * 2 ^ min (15 - (i - 88)).toNat IntKind.u16.bits)))), .eq (.pointer (some ⟨b1, 4, none⟩)), .any] [[(3, none)], [(21, some 0)], [(1, none)], [(23, some 2)], [(24, some 3)], [(25, some 4)], [(22, some 1), (26, some 5)], [(3, none)], [(28, some 7), (27, some 6)]] d100 z100 (by kernel_rfl) rfl ⟨Oh rfl (by kernel_rfl) rfl fun _ _ T ⟨k3, _⟩ => ex_fieldAddr (k3.trans s120_3) (fa_31_4 _ _ _),
       Oh rfl (by kernel_rfl) rfl fun _ _ T ⟨k21, _⟩ => ex_load k21 (Try.isAgg25 _) (cell_of (Ext.keep T hb1_122) rfl),
       Oh rfl (by kernel_rfl) rfl fun _ _ T ⟨k1, _⟩ => ex_move (k1.trans s123_1),
       Oh rfl (by kernel_rfl) rfl fun _ _ T ⟨k23, _⟩ => ex_sub64 k23 rfl (by omega),
       Oh rfl (by kernel_rfl) rfl fun _ _ T ⟨k24, _⟩ => ex_sub64 rfl k24 (by omega),
       Oh rfl (by kernel_rfl) rfl fun _ _ T ⟨k25, _⟩ => ex_shl rfl k25 (by omega),
       Oh rfl (by kernel_rfl) rfl fun _ _ T ⟨k22, k26, _⟩ => ex_xor k22 k26,
       Oh rfl (by kernel_rfl) rfl fun _ _ T ⟨k3, _⟩ => ex_fieldAddr (k3.trans s120_3) (fa_31_4 _ _ _),
       Ot (cs := [.int .u32 hd, .int .u32 hs, .int .u8 hp, .int .u16 hsp, .int .u16 hdp]) (vs := [.int .u16 (ibits .xor .u16 hdp (IntKind.u16.wrap (1 * 2 ^ min (15 - (i - 88)).toNat IntKind.u16.bits)))]) (cs' := [.int .u32 hd, .int .u32 hs, .int .u8 hp, .int .u16 hsp, .int .u16 (ibits .xor .u16 hdp (IntKind.u16.wrap (1 * 2 ^ min (15 - (i - 88)).toNat IntKind.u16.bits)))]) (by kernel_rfl) hb1_122 Try.sizeOf25 rfl rfl (by decide) (Nat.le_of_ble_eq_true rfl) rfl rfl fun _ _ T ⟨k28, k27, _⟩ => ⟨k28, k27⟩,
       trivial⟩ ?_
      intro a124 w124 d124 z124 t124 e124 q124
      repeat (with_reducible refine block_norm ?_)
      refine hK40 _ _ ?_
      refine wp_seq ?_
      refine seq_begin ?_
      refine sp z124 rfl rfl (ex_loadAgg (cs := [.int .u32 hd, .int .u32 hs, .int .u8 hp, .int .u16 hsp, .int .u16 (ibits .xor .u16 hdp (IntKind.u16.wrap (1 * 2 ^ min (15 - (i - 88)).toNat IntKind.u16.bits)))]) ((q124 3 rfl).trans s120_3) (Try.isAgg31 _) (Try.sizeOf31 _) (cells_of (off := 0) t124.here rfl)) ?_; intro a125 u125 z125
      have p127 := fr4 q60 q81 q100 q124
      have hb3_128 := (Turn.keep t124 (Ext.keep t100 (Ext.keep t81 hb3_62)) (Ne.symm n4_b1_b3))
      refine sstore (cs := [.int .u32 0, .int .u32 0, .int .u8 0, .int .u16 0, .int .u16 0]) (vs := [.int .u32 hd, .int .u32 hs, .int .u8 hp, .int .u16 hsp, .int .u16 (ibits .xor .u16 hdp (IntKind.u16.wrap (1 * 2 ^ min (15 - (i - 88)).toNat IntKind.u16.bits)))]) (cs' := [.int .u32 hd, .int .u32 hs, .int .u8 hp, .int .u16 hsp, .int .u16 (ibits .xor .u16 hdp (IntKind.u16.wrap (1 * 2 ^ min (15 - (i - 88)).toNat IntKind.u16.bits)))]) z125 rfl ((u125.past 6 rfl).trans ((p127 6 rfl).trans ((p121 6 rfl).trans ((p23 6 rfl).trans ((p18 6 rfl).trans ((u10.past 6 rfl).trans ((u9.past 6 rfl).trans (u3.here _ rfl)))))))) (u125.here _ rfl) hb3_128 (Try.sizeOf31 _) rfl rfl (by decide) (Nat.le_of_ble_eq_true rfl) rfl rfl ?_; intro w126 a126 t126 u126 z126
      have d129 := (u126.defs.trans (u125.defs.trans d124))
      refine seq_end ?_
      refine then_norm ?_
      refine wp_ret ?_
      have s130_6 : a3.eval (.tmp 6) = .pointer (some ⟨b3, 0, none⟩) := (u3.here _ rfl)
      have s131_6 := ((u126.past 6 rfl).trans ((u125.past 6 rfl).trans ((p127 6 rfl).trans ((p121 6 rfl).trans ((p23 6 rfl).trans ((p18 6 rfl).trans ((u10.past 6 rfl).trans ((u9.past 6 rfl).trans s130_6))))))))
      repeat (first | (with_reducible refine then_ret ?_) | (with_reducible refine block_ret ?_))
      refine retl (rs := [.cell 6 31]) Try.results113 ⟨⟨_, s131_6, run_loadVarA (cs := [.int .u32 hd, .int .u32 hs, .int .u8 hp, .int .u16 hsp, .int .u16 (ibits .xor .u16 hdp (IntKind.u16.wrap (1 * 2 ^ min (15 - (i - 88)).toNat IntKind.u16.bits)))]) (Try.isAgg31 _) (Try.sizeOf31 _) (cells_of (off := 0) t126.here rfl)⟩, trivial⟩ d129 ?_
      have x132 := (Touch.turn (Touch.turn x101 t124 (Or.inr yb1_2)) t126 (Or.inr yb3_5))
      exact ⟨by unfold hwith; rw [if_neg (by rw [y28]; decide), if_neg c43, if_neg c64, if_neg c82, if_neg c102], x132.ext⟩

end Go.Proofs.Yticodddigaiipaa
