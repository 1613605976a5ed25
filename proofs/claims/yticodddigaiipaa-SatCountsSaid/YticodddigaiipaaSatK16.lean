/-
  A region of open order, walked in stages: all that comes ahead of one operation, that operation, all that is behind it.
-/
import Derived.Test.YticodddigaiipaaSatK6
set_option linter.unusedVariables false
set_option linter.unusedSectionVars false
set_option linter.unusedSimpArgs false
namespace Go.Proofs.Yticodddigaiipaa
open Go.RowKit

def Und (ops : Array Oper) (l : Array Bool) : Nat := (List.range ops.size).countP fun i => !l.getD i false
/-- What is left of a region when those marked are done. -/
def Stage (P : Program) (ops : Array Oper) (Q : Exit → Act → World → Prop) (fl : Array Bool) (a : Act) (w : World) : Prop :=
  ∀ fuel, Und ops fl ≤ fuel → wpAny P .any ops Q fuel fl a w

theorem und_set {ops : Array Oper} {l : Array Bool} {i : Nat} (hi : i < ops.size) (hl : i < l.size) (h : l.getD i false = false) : Und ops (l.setIfInBounds i true) + 1 ≤ Und ops l := by
  have hset : ∀ j, (l.setIfInBounds i true).getD j false = (l.getD j false || j == i) := by
    intro j
    by_cases hji : j = i
    · subst hji; simp [Array.getD_eq_getD_getElem?, hl]
    · simp only [Array.getD_eq_getD_getElem?]
      rw [Array.getElem?_setIfInBounds_ne (fun e => hji e.symm)]
      simp [hji]
  have hg : ∀ (r : List Nat), i ∈ r → (r.countP fun j => !(l.setIfInBounds i true).getD j false) + 1 ≤ r.countP fun j => !l.getD j false := by
    intro r
    induction r with
    | nil => intro h; simp at h
    | cons x r ih =>
      intro hx
      simp only [List.countP_cons]
      have hle : (r.countP fun j => !(l.setIfInBounds i true).getD j false) ≤ r.countP fun j => !l.getD j false := by
        apply List.countP_mono_left
        intro y _ hy
        rw [hset] at hy
        simp only [Bool.not_eq_true', Bool.or_eq_false_iff] at hy ⊢
        exact hy.1
      by_cases hxi : x = i
      · subst hxi
        rw [hset, h]
        simp
        simpa using hle
      · have := ih ((List.mem_cons.1 hx).resolve_left (fun e => hxi e.symm))
        rw [hset]
        have hb : (x == i) = false := by simpa using hxi
        rw [hb, Bool.or_false]
        omega
  exact hg _ (List.mem_range.2 hi)
theorem ready_iff {ops : Array Oper} {l : Array Bool} (hs : l.size = ops.size) {i : Nat} : i ∈ Region.ready .any ops l ↔ ∃ o, ops[i]? = some o ∧ l.getD i false = false ∧ ∀ e ∈ o.after, Region.binds .any e = true → l.getD e.on false = true := by
  unfold Region.ready
  rw [List.mem_filter, List.mem_range]
  constructor
  · rintro ⟨h1, h2⟩
    have hil : i < l.size := by omega
    have ho : ops[i]? = some ops[i] := by simp [h1]
    rw [ho] at h2
    simp only [Bool.and_eq_true, Bool.not_eq_true', Option.map_some, Option.getD_some, Array.all_eq_true', Bool.or_eq_true] at h2
    refine ⟨_, ho, ?_, fun e he hb => ?_⟩
    · have := h2.1
      simp only [Array.getD_eq_getD_getElem?, Array.getElem?_eq_getElem hil, Option.getD_some] at this ⊢
      exact this
    · rcases h2.2 e he with h | h
      · rw [hb] at h; cases h
      · exact h
  · rintro ⟨o, ho, h1, h2⟩
    have hi : i < ops.size := (Array.getElem?_eq_some_iff.1 ho).1
    have hil : i < l.size := by omega
    refine ⟨hi, ?_⟩
    rw [ho]
    simp only [Bool.and_eq_true, Bool.not_eq_true', Option.map_some, Option.getD_some, Array.all_eq_true', Bool.or_eq_true]
    refine ⟨?_, fun e he => ?_⟩
    · simp only [Array.getD_eq_getD_getElem?, Array.getElem?_eq_getElem hil, Option.getD_some] at h1 ⊢
      exact h1
    · cases hb : Region.binds .any e with
      | false => exact .inl rfl
      | true => exact .inr (h2 e he hb)

section
variable {P : Program} {ops : Array Oper} {Q : Exit → Act → World → Prop}

theorem stage_begin {l : List Oper} {id : Nat} {fl : Array Bool} {a : Act} {w : World} (hm : P.follows .mixedOrders = true) (hf : fl = Array.replicate l.toArray.size false) (h : ∀ w', Ext w w' → Stage P l.toArray Q fl a w') : (Code.region id l.toArray true).wp P Q a w := by
  subst hf
  exact wp_region_any hm (h _ (Ext.drawn w _) _ (by unfold Und; refine Nat.le_trans List.countP_le_length ?_; simp))
theorem stage_end {fl : Array Bool} {a : Act} {w : World} (hs : (decide (fl.size = ops.size) && (List.range ops.size).all fun i => fl.getD i false) = true) (h : Q .normal a w) : Stage P ops Q fl a w := by
  simp only [Bool.and_eq_true, decide_eq_true_eq, List.all_eq_true, List.mem_range] at hs
  have hr : Region.ready .any ops fl = [] := by
    apply List.eq_nil_iff_forall_not_mem.2
    intro i hi
    obtain ⟨o, ho, h1, _⟩ := (ready_iff hs.1).1 hi
    rw [hs.2 i (Array.getElem?_eq_some_iff.1 ho).1] at h1
    cases h1
  intro fuel _
  cases fuel with
  | zero => exact ⟨hr, h⟩
  | succ f => exact ⟨fun _ => h, fun i hi => by rw [hr] at hi; cases hi⟩

/-- what can be seen by looking at the region -/
def chkB (ops : Array Oper) (anc : List (List Nat)) (n : Nat) : Bool :=
  chkAnc anc ops.toList anc && nodups (dsts ops) && (dsts ops).all (fun d => decide (d < n)) && ops.toList.zipIdx.all (fun y => y.1.after.toList.all fun e => !Region.binds .any e || decide (e.on < y.2))
/-- what is done is closed -/
def chkC (ops : Array Oper) (anc : List (List Nat)) (fl : Array Bool) : Bool := decide (fl.size = ops.size) && (List.range ops.size).all fun i => !fl.getD i false || ((anc[i]?).getD []).all fun j => fl.getD j false

theorem anc_get {anc : List (List Nat)} {n : Nat} (hc : chkB ops anc n = true) {i : Nat} {o : Oper} (ho : ops[i]? = some o) : ∀ j ∈ (anc[i]?).getD [], ∃ e ∈ o.after, Region.binds .any e = true ∧ (e.on = j ∨ j ∈ (anc[e.on]?).getD []) := by
  simp only [chkB, Bool.and_eq_true] at hc
  intro j hj
  cases hl : anc[i]? with
  | none => rw [hl] at hj; simp at hj
  | some li => rw [hl] at hj; exact chkAnc_get (n := n) hc.1.1.1 i o li (by simpa using ho) hl j (by simpa using hj)

/-- The one operation that is up. -/
theorem stage_one {anc : List (List Nat)} {n m : Nat} {fl fl' : Array Bool} {a : Act} {w : World} (hc : chkB ops anc n = true) (hcl : chkC ops anc fl = true) (hfl : fl' = fl.setIfInBounds m true)
    (hup : (decide (m < ops.size) && !fl.getD m false && (((ops[m]?).map fun o => o.after.all fun e => !Region.binds .any e || fl.getD e.on false).getD false) && (List.range ops.size).all fun i => i == m || fl.getD i false || ((anc[i]?).getD []).contains m) = true)
    (h : wpOp P ops Q m (Stage P ops Q fl') a w) : Stage P ops Q fl a w := by
  subst hfl
  simp only [Bool.and_eq_true, decide_eq_true_eq, Bool.not_eq_true', List.all_eq_true, List.mem_range, Bool.or_eq_true, beq_iff_eq] at hup
  obtain ⟨⟨⟨h1, h2⟩, h3⟩, h4⟩ := hup
  simp only [chkC, Bool.and_eq_true, decide_eq_true_eq, List.all_eq_true, List.mem_range, Bool.or_eq_true, Bool.not_eq_true'] at hcl
  obtain ⟨hs, hcl⟩ := hcl
  have ho : ops[m]? = some ops[m] := by simp [h1]
  have hmr : m ∈ Region.ready .any ops fl := (ready_iff hs).2 ⟨_, ho, h2, fun e he hb => by
    rw [ho] at h3
    simp only [Option.map_some, Option.getD_some, Array.all_eq_true', Bool.or_eq_true, Bool.not_eq_true'] at h3
    rcases h3 e he with h | h
    · rw [hb] at h; cases h
    · exact h⟩
  intro fuel hf
  have hu := und_set (l := fl) h1 (by omega) h2
  cases fuel with
  | zero => omega
  | succ f =>
    refine ⟨fun hr => (by rw [hr] at hmr; cases hmr), fun i hi => ?_⟩
    have hii : i = m := by
      obtain ⟨o, hoi, g1, g2⟩ := (ready_iff hs).1 hi
      have hil := (Array.getElem?_eq_some_iff.1 hoi).1
      rcases h4 i hil with (e | e) | e
      · exact e
      · rw [g1] at e; cases e
      · obtain ⟨e', he', hb, hx⟩ := anc_get hc hoi m (by simpa using e)
        have := g2 e' he' hb
        rcases hx with rfl | hx
        · rw [h2] at this; cases this
        · have he : e'.on < ops.size := by
            by_cases q : e'.on < ops.size
            · exact q
            · rw [Array.getD_eq_getD_getElem?, Array.getElem?_eq_none (by omega)] at this; cases this
          rcases hcl e'.on he with h | h
          · rw [this] at h; cases h
          · rw [h m hx] at h2; cases h2
    subst hii
    exact wpOp_mono (fun a' w' hh => hh f (by omega)) h

def upB (ops : Array Oper) (anc : List (List Nat)) (fl : Array Bool) (m : Nat) : Bool :=
  decide (m < ops.size) && !fl.getD m false && (((ops[m]?).map fun o => o.after.all fun e => !Region.binds .any e || fl.getD e.on false).getD false) && (List.range ops.size).all fun i => i == m || fl.getD i false || ((anc[i]?).getD []).contains m
/-- .. a call. -/
theorem stage_call_ {anc : List (List Nat)} {n m : Nat} {fl fl' : Array Bool} {a : Act} {w : World} {o : Oper} (hz : a.tmps.size = n) (hc : chkB ops anc n = true) (hcl : chkC ops anc fl = true) (hfl : fl' = fl.setIfInBounds m true)
    (hup : (decide (m < ops.size) && !fl.getD m false && (((ops[m]?).map fun o => o.after.all fun e => !Region.binds .any e || fl.getD e.on false).getD false) && (List.range ops.size).all fun i => i == m || fl.getD i false || ((anc[i]?).getD []).contains m) = true)
    (ho : ops[m]? = some o) (hd : ((o.dst.map fun d => decide (d < n)).getD true) = true) (hg : o.guard = none) {f : FuncId} {args : Array Value} (h : (execOp a.eval o).run P w = .ok (.enter f args) w) {R : Ending → World → Prop} (hcall : Calls P f args w R)
    (next : ∀ e w', R e w' → ∃ v, e = .returned v ∧ ∀ a', Put a o.dst v a' → a'.tmps.size = n → Stage P ops Q fl' a' w') : Stage P ops Q fl a w := by
  refine stage_one hc hcl hfl hup ?_
  have hD : Does P ops o a w (fun v w' => ∀ a', Put a o.dst v a' → a'.tmps.size = n → Stage P ops Q fl' a' w') := .plain hg (.call h hcall next)
  unfold wpOp
  rw [ho]
  simp only
  unfold Does at hD
  split
  · rename_i hw
    rw [if_pos hw] at hD
    refine .inl (wp_mono2 (fun a' w' hh => ?_) (fun _ _ _ hh => hh.elim) hD)
    obtain ⟨v, rfl, hv⟩ := hh
    exact hv _ (Put.mk' hz hd) ((put_size ..).trans hz)
  · rename_i hw
    rw [if_neg hw] at hD
    exact hD _ (Put.mk' hz hd) ((put_size ..).trans hz)
end

theorem stage_call {P : Program} {ops : Array Oper} {Q : Exit → Act → World → Prop} (n m : Nat) (fl fl' : Array Bool) {a : Act} {w : World} {o : Oper} (hz : a.tmps.size = n) (hck : (chkB ops (mkAnc ops) n && chkC ops (mkAnc ops) fl && upB ops (mkAnc ops) fl m) = true) (hfl : fl' = fl.setIfInBounds m true)
    (ho : ops[m]? = some o) (hd : ((o.dst.map fun d => decide (d < n)).getD true) = true) (hg : o.guard = none) {f : FuncId} {args : Array Value} (h : (execOp a.eval o).run P w = .ok (.enter f args) w) {R : Ending → World → Prop} (hcall : Calls P f args w R)
    (next : ∀ e w', R e w' → ∃ v, e = .returned v ∧ ∀ a', Put a o.dst v a' → a'.tmps.size = n → Stage P ops Q fl' a' w') : Stage P ops Q fl a w := by
  rw [Bool.and_eq_true, Bool.and_eq_true] at hck
  exact stage_call_ hz hck.1.1 hck.1.2 hfl hck.2 ho hd hg h hcall next

/-! ### Many at once -/
section
variable {P : Program} {Q : Exit → Act → World → Prop} {w0 : World} {a0 : Act}

def OblsS (P : Program) (w0 : World) (a0 : Act) (ops : Array Oper) (Φ : List (Pd NoF)) (anc : List (List Nat)) (fl fl' : Array Bool) : Nat → List Oper → List (Pd NoF) → List (List (Nat × Option Nat)) → Prop
  | i, o :: os, φ :: φs, k :: ks => (match fl.getD i false || !fl'.getD i false with | true => True | false => Obl P NoF (Inv.none (G := .grow) (dl := [])) w0 a0 ops Φ anc [] i o φ k) ∧ OblsS P w0 a0 ops Φ anc fl fl' (i + 1) os φs ks
  | _, [], [], [] => True
  | _, _, _, _ => False
def EndsS (a : Act) (w : World) (fl fl' : Array Bool) : Nat → List Oper → List (Pd NoF) → Prop
  | i, o :: os, φ :: φs => (match fl.getD i false || !fl'.getD i false with | true => True | false => (match o.dst with | some d => φ.p (a.eval (.tmp d)) w | none => True)) ∧ EndsS a w fl fl' (i + 1) os φs
  | _, _, _ => True
def chkTS (ops : Array Oper) (anc : List (List Nat)) (fl fl' : Array Bool) : Nat → List (List (Nat × Option Nat)) → Bool
  | i, k :: ks => (fl.getD i false || !fl'.getD i false || k.all (fun x => match x.2 with
      | some j => ((anc[i]?).getD []).contains j && (((ops[j]?).map (·.dst == some x.1)).getD false) && !fl.getD j false
      | none => ops.toList.zipIdx.all fun y => y.2 == i || y.1.dst != some x.1 || ((anc[y.2]?).getD []).contains i || fl.getD y.2 false)) && chkTS ops anc fl fl' (i + 1) ks
  | _, [] => true
/-- none outside can come up ahead of the last one within -/
def chkD (ops : Array Oper) (anc : List (List Nat)) (fl fl' : Array Bool) : Bool :=
  decide (fl'.size = ops.size) && (List.range ops.size).all fun i => (!fl.getD i false || fl'.getD i false) && (fl'.getD i false || (List.range ops.size).all fun j => !fl'.getD j false || fl.getD j false || ((anc[i]?).getD []).contains j)

theorem OblsS.get {ops : Array Oper} {Φ : List (Pd NoF)} {anc : List (List Nat)} {fl fl' : Array Bool} : ∀ {k : Nat} {os : List Oper} {φs : List (Pd NoF)} {ks : List (List (Nat × Option Nat))}, OblsS P w0 a0 ops Φ anc fl fl' k os φs ks → ∀ (i : Nat) (o : Oper), os[i]? = some o → fl.getD (k + i) false = false → fl'.getD (k + i) false = true →
    ∃ φ kk, φs[i]? = some φ ∧ ks[i]? = some kk ∧ Obl P NoF (Inv.none (G := .grow) (dl := [])) w0 a0 ops Φ anc [] (k + i) o φ kk
  | k, o :: os, φ :: φs, kk :: ks, h, 0, o', ho, h1, h2 => by
    simp at ho; subst ho
    rw [Nat.add_zero] at h1 h2 ⊢
    have := h.1
    rw [h1, h2] at this
    exact ⟨φ, kk, rfl, rfl, this⟩
  | k, o :: os, φ :: φs, kk :: ks, h, i + 1, o', ho, h1, h2 => by
    obtain ⟨φ', kk', e1, e2, e3⟩ := OblsS.get h.2 i o' (by simpa using ho) (by rwa [show k + 1 + i = k + (i + 1) from by omega]) (by rwa [show k + 1 + i = k + (i + 1) from by omega])
    refine ⟨φ', kk', by simpa using e1, by simpa using e2, ?_⟩
    rw [show k + (i + 1) = k + 1 + i from by omega]
    exact e3
  | _, [], _, _, _, _, _, ho, _, _ => by simp at ho
  | _, _ :: _, [], _, h, _, _, _, _, _ => h.elim
  | _, _ :: _, _ :: _, [], h, _, _, _, _, _ => h.elim

theorem chkTS_get {ops : Array Oper} {anc : List (List Nat)} {fl fl' : Array Bool} : ∀ {k : Nat} {ks : List (List (Nat × Option Nat))}, chkTS ops anc fl fl' k ks = true → ∀ (i : Nat) (kk : List (Nat × Option Nat)), ks[i]? = some kk → fl.getD (k + i) false = false → fl'.getD (k + i) false = true → ∀ x ∈ kk,
    (∀ j, x.2 = some j → j ∈ (anc[k + i]?).getD [] ∧ (∃ o, ops[j]? = some o ∧ o.dst = some x.1) ∧ fl.getD j false = false) ∧
    (x.2 = none → ∀ j o, ops[j]? = some o → o.dst = some x.1 → j = k + i ∨ k + i ∈ (anc[j]?).getD [] ∨ fl.getD j false = true)
  | k, kk :: ks, h, 0, kk', hk, h1, h2 => by
    simp only [List.length_cons, Nat.zero_lt_succ, getElem?_pos, List.getElem_cons_zero, Option.some.injEq] at hk
    subst hk
    rw [Nat.add_zero] at h1 h2
    simp only [chkTS, h1, h2, Bool.not_true, Bool.or_self, Bool.false_or, Bool.and_eq_true, List.all_eq_true] at h
    intro x hx
    have := h.1 x hx
    refine ⟨fun j hj => ?_, fun hn j o hj ho => ?_⟩
    · rw [hj] at this
      simp only [Bool.and_eq_true, Bool.not_eq_true'] at this
      obtain ⟨⟨g1, g2⟩, g3⟩ := this
      refine ⟨by simpa using g1, ?_, g3⟩
      cases hoj : ops[j]? with
      | none => rw [hoj] at g2; simp at g2
      | some o => rw [hoj] at g2; exact ⟨o, rfl, by simpa using g2⟩
    · rw [hn] at this
      simp only [List.all_eq_true, Bool.or_eq_true] at this
      have := this (o, j) (by
        rw [List.mem_iff_getElem?]
        exact ⟨j, by simp [List.getElem?_zipIdx, hj]⟩)
      simp only [beq_iff_eq, bne_iff_ne, ne_eq] at this
      rcases this with ((h1 | h1) | h1) | h1
      · exact .inl (by simpa using h1)
      · exact absurd ho h1
      · exact .inr (.inl (by simpa using h1))
      · exact .inr (.inr h1)
  | k, kk :: ks, h, i + 1, kk', hk, h1, h2 => by
    simp only [chkTS, Bool.and_eq_true] at h
    have := chkTS_get h.2 i kk' (by simpa using hk) (by rwa [show k + 1 + i = k + (i + 1) from by omega]) (by rwa [show k + 1 + i = k + (i + 1) from by omega])
    rw [show k + 1 + i = k + (i + 1) from by omega] at this
    exact this
  | _, [], _, _, _, hk, _, _ => by simp at hk

structure UnderS (w0 : World) (a0 : Act) (ops : Array Oper) (Φ : List (Pd NoF)) (anc : List (List Nat)) (fl fl' : Array Bool) (l : Array Bool) (a : Act) (w : World) : Prop where
  size : l.size = ops.size
  defs : a.defers = a0.defers
  tmps : a.tmps.size = a0.tmps.size
  lo : ∀ i, fl.getD i false = true → l.getD i false = true
  hi : ∀ i, l.getD i false = true → fl'.getD i false = true
  clo : ∀ i, l.getD i false = true → ∀ j ∈ (anc[i]?).getD [], l.getD j false = true
  out : ∀ t, (∀ i o, ops[i]? = some o → o.dst = some t → l.getD i false = false ∨ fl.getD i false = true) → a.eval (.tmp t) = a0.eval (.tmp t)
  phi : ∀ i o d, ops[i]? = some o → o.dst = some d → l.getD i false = true → fl.getD i false = false → ((Φ[i]?).getD Pd.any).p (a.eval (.tmp d)) w
  ext : Ext w0 w

theorem knowS {ops : Array Oper} {Φ : List (Pd NoF)} {anc : List (List Nat)} {fl fl' l : Array Bool} {a : Act} {w : World} (hU : UnderS w0 a0 ops Φ anc fl fl' l a w) {i : Nat} (hani : ∀ j ∈ (anc[i]?).getD [], l.getD j false = true) (hni : l.getD i false = false) : ∀ (kk : List (Nat × Option Nat)),
    (∀ x ∈ kk, (∀ j, x.2 = some j → j ∈ (anc[i]?).getD [] ∧ (∃ o, ops[j]? = some o ∧ o.dst = some x.1) ∧ fl.getD j false = false) ∧ (x.2 = none → ∀ j o, ops[j]? = some o → o.dst = some x.1 → j = i ∨ i ∈ (anc[j]?).getD [] ∨ fl.getD j false = true)) → Know NoF a0 Φ a w kk
  | [], _ => trivial
  | (t, none) :: r, h => by
    refine ⟨hU.out t fun j o hj ho => ?_, knowS hU hani hni r fun x hx => h x (by simp [hx])⟩
    rcases (h (t, none) (by simp)).2 rfl j o hj ho with rfl | hd | hd
    · exact .inl hni
    · left
      cases hl : l.getD j false with
      | false => rfl
      | true => rw [hU.clo j hl i hd] at hni; cases hni
    · exact .inr hd
  | (t, some j) :: r, h => by
    obtain ⟨h1, ⟨o, hj, ho⟩, h3⟩ := (h (t, some j) (by simp)).1 j rfl
    exact ⟨hU.phi j o t hj ho (hani j h1) h3, knowS hU hani hni r fun x hx => h x (by simp [hx])⟩

theorem getD_set {l : Array Bool} {i : Nat} (hil : i < l.size) (j : Nat) : (l.setIfInBounds i true).getD j false = (l.getD j false || j == i) := by
  by_cases hji : j = i
  · subst hji; simp [Array.getD_eq_getD_getElem?, hil]
  · simp only [Array.getD_eq_getD_getElem?]
    rw [Array.getElem?_setIfInBounds_ne (fun e => hji e.symm)]
    simp [hji]

theorem underS_step {ops : Array Oper} {Φ : List (Pd NoF)} {tbl : List (List (Nat × Option Nat))} {anc : List (List Nat)} {fl fl' : Array Bool} {n : Nat} (hn : a0.tmps.size = n) (hc : chkB ops anc n = true) (hT : chkTS ops anc fl fl' 0 tbl = true) (hO : OblsS P w0 a0 ops Φ anc fl fl' 0 ops.toList Φ tbl) {l : Array Bool} {a : Act} {w : World}
    (hU : UnderS w0 a0 ops Φ anc fl fl' l a w) {i : Nat} {o : Oper} (ho : ops[i]? = some o) (hni : l.getD i false = false) (hin : fl'.getD i false = true) (hdep : ∀ e ∈ o.after, Region.binds .any e = true → l.getD e.on false = true) :
    wpOp P ops Q i (UnderS w0 a0 ops Φ anc fl fl' (l.setIfInBounds i true)) a w := by
  have hi : i < ops.size := (Array.getElem?_eq_some_iff.1 ho).1
  have hol : ops.toList[i]? = some o := by simpa using ho
  have hfi : fl.getD i false = false := by
    cases hq : fl.getD i false with
    | false => rfl
    | true => rw [hU.lo i hq] at hni; cases hni
  obtain ⟨φ, kk, hφ, hkk, hob⟩ := hO.get i o hol (by rwa [Nat.zero_add]) (by rwa [Nat.zero_add])
  rw [Nat.zero_add] at hob
  have hani : ∀ j ∈ (anc[i]?).getD [], l.getD j false = true := by
    intro j hj
    obtain ⟨e, he, hb, hx⟩ := anc_get hc ho j hj
    have he' := hdep e he hb
    rcases hx with rfl | hx
    · exact he'
    · exact hU.clo _ he' j hx
  have hK : Know NoF a0 Φ a w kk := knowS hU hani hni kk (fun x hx => by
    have := chkTS_get hT i kk hkk (by rwa [Nat.zero_add]) (by rwa [Nat.zero_add]) x hx
    rw [Nat.zero_add] at this
    exact this)
  have hD := hob a w 0 (by simp [loPh]) (Nat.zero_le _) hU.ext.touch trivial hK
  have hil : i < l.size := by rw [hU.size]; exact hi
  have hset := getD_set hil
  simp only [chkB, Bool.and_eq_true] at hc
  obtain ⟨⟨⟨_, hcD⟩, hcN⟩, _⟩ := hc
  have fin : ∀ v w', (Gr.grow.r w w' ∧ φ.p v w') → UnderS w0 a0 ops Φ anc fl fl' (l.setIfInBounds i true) (a.put o.dst v) w' := by
    intro v w' ⟨hw, hv⟩
    have hw : Ext w w' := hw
    refine ⟨by simp [hU.size], (put_defers ..).trans hU.defs, (put_size ..).trans hU.tmps, fun j hj => ?_, fun j hj => ?_, fun j hj k hk => ?_, fun t h => ?_, fun j oj d hj hd hl hf => ?_, hU.ext.trans hw⟩
    · rw [hset, hU.lo j hj]; rfl
    · rw [hset] at hj
      simp only [Bool.or_eq_true, beq_iff_eq] at hj
      rcases hj with hj | rfl
      · exact hU.hi j hj
      · exact hin
    · rw [hset] at hj ⊢
      simp only [Bool.or_eq_true, beq_iff_eq] at hj ⊢
      rcases hj with hj | rfl
      · exact .inl (hU.clo j hj k hk)
      · exact .inl (hani k hk)
    · have hne : o.dst ≠ some t := fun e => by
        rcases h i o ho e with this | this
        · rw [hset] at this; simp at this
        · rw [hfi] at this; cases this
      rw [eval_put_other hne]
      refine hU.out t fun j oj hj hd => ?_
      rcases h j oj hj hd with this | this
      · rw [hset] at this
        simp only [Bool.or_eq_false_iff] at this
        exact .inl this.1
      · exact .inr this
    · rw [hset] at hl
      by_cases hji : j = i
      · subst hji
        rw [ho] at hj; injection hj with hj; subst hj
        rw [hd, eval_put_same (by
          rw [hU.tmps, hn]
          have : d ∈ dsts ops := List.mem_filterMap.2 ⟨o, List.mem_of_getElem? hol, hd⟩
          simpa using List.all_eq_true.1 hcN d this)]
        rw [hφ]
        exact hv
      · have hl' : l.getD j false = true := by
          simp only [Bool.or_eq_true, beq_iff_eq] at hl
          exact hl.resolve_right hji
        have hne : o.dst ≠ some d := fun e => hji (nodups_apart hcD j i oj o d (by simpa using hj) hol hd e)
        rw [eval_put_other hne]
        exact ((Φ[j]?).getD Pd.any).st (hU.phi j oj d hj hd hl' hf) hw.touch
  unfold wpOp
  rw [ho]
  simp only
  unfold Does at hD
  split
  · rename_i hw
    rw [if_pos hw] at hD
    refine .inl (wp_mono2 (fun a' w' h => ?_) (fun _ _ _ h => h.elim) hD)
    obtain ⟨v, rfl, hv⟩ := h
    exact fin v w' hv
  · rename_i hw
    rw [if_neg hw] at hD
    exact fin undef w hD

theorem endsS_of {ops : Array Oper} {Φ : List (Pd NoF)} {anc : List (List Nat)} {fl fl' : Array Bool} {a : Act} {w : World} (hU : UnderS w0 a0 ops Φ anc fl fl' fl' a w) : ∀ (os : List Oper) (φs : List (Pd NoF)) (k : Nat),
    (∀ i o, os[i]? = some o → ops[k + i]? = some o) → (∀ i φ, φs[i]? = some φ → Φ[k + i]? = some φ) → EndsS a w fl fl' k os φs
  | [], _, _, _, _ => by unfold EndsS; trivial
  | _ :: _, [], _, _, _ => by unfold EndsS; trivial
  | o :: os, φ :: φs, k, h1, h2 => by
    refine ⟨?_, endsS_of hU os φs (k + 1) (fun i o' h => ?_) (fun i φ' h => ?_)⟩
    · have ho := h1 0 o rfl
      have hφ := h2 0 φ rfl
      rw [Nat.add_zero] at ho hφ
      split
      · trivial
      · rename_i hq
        simp only [Bool.or_eq_false_iff, Bool.not_eq_false'] at hq
        cases hd : o.dst with
        | none => trivial
        | some d =>
          have := hU.phi k o d ho hd hq.2 hq.1
          rw [hφ] at this
          exact this
    · have := h1 (i + 1) o' (by simpa using h)
      rwa [show k + (i + 1) = k + 1 + i from by omega] at this
    · have := h2 (i + 1) φ' (by simpa using h)
      rwa [show k + (i + 1) = k + 1 + i from by omega] at this

/-- All of a stage's operations, in whatever order: each looked at once. -/
theorem stage {l : List Oper} (n : Nat) (fl fl' : Array Bool) (Φ : List (Pd NoF)) (tbl : List (List (Nat × Option Nat))) (d0 : a0.defers = []) (z0 : a0.tmps.size = n)
    (hc : (chkB l.toArray (mkAnc l.toArray) n && chkC l.toArray (mkAnc l.toArray) fl && chkTS l.toArray (mkAnc l.toArray) fl fl' 0 tbl && chkD l.toArray (mkAnc l.toArray) fl fl') = true)
    (hO : OblsS P w0 a0 l.toArray Φ (mkAnc l.toArray) fl fl' 0 l Φ tbl)
    (next : ∀ a w, a.defers = [] → a.tmps.size = n → Ext w0 w → EndsS a w fl fl' 0 l Φ → (∀ t, ((l.zipIdx.filterMap fun y => if fl.getD y.2 false || !fl'.getD y.2 false then none else y.1.dst).contains t) = false → a.eval (.tmp t) = a0.eval (.tmp t)) → Stage P l.toArray Q fl' a w) :
    Stage P l.toArray Q fl a0 w0 := by
  simp only [Bool.and_eq_true] at hc
  obtain ⟨⟨⟨hB, hC⟩, hT⟩, hD⟩ := hc
  generalize mkAnc l.toArray = anc at *
  have hC' := hC
  simp only [chkC, Bool.and_eq_true, decide_eq_true_eq, List.all_eq_true, List.mem_range, Bool.or_eq_true, Bool.not_eq_true'] at hC'
  obtain ⟨hs, hcl⟩ := hC'
  simp only [chkD, Bool.and_eq_true, decide_eq_true_eq, List.all_eq_true, List.mem_range, Bool.or_eq_true, Bool.not_eq_true'] at hD
  obtain ⟨hs', hD⟩ := hD
  have lt_of_true : ∀ {f : Array Bool} {i : Nat}, f.size = l.toArray.size → f.getD i false = true → i < l.toArray.size := by
    intro f i hf h
    by_cases q : i < l.toArray.size
    · exact q
    · rw [Array.getD_eq_getD_getElem?, Array.getElem?_eq_none (by omega)] at h; cases h
  have hO' : OblsS P w0 a0 l.toArray Φ anc fl fl' 0 l.toArray.toList Φ tbl := hO
  have fin : ∀ (lst : Array Bool) a w, UnderS w0 a0 l.toArray Φ anc fl fl' lst a w → (∀ i, fl'.getD i false = true → lst.getD i false = true) → Stage P l.toArray Q lst a w := by
    intro lst a w hU hall
    have he : lst = fl' := by
      apply Array.ext
      · rw [hU.size, hs']
      · intro i h1 h2
        have e1 : lst.getD i false = lst[i] := by rw [Array.getD_eq_getD_getElem?]; simp [h1]
        have e2 : fl'.getD i false = fl'[i] := by rw [Array.getD_eq_getD_getElem?]; simp [h2]
        cases hq : fl'[i] with
        | true => rw [← e1]; exact hall i (by rw [e2]; exact hq)
        | false =>
          cases hp : lst[i] with
          | false => rfl
          | true => have := hU.hi i (by rw [e1]; exact hp); rw [e2, hq] at this; cases this
    subst he
    refine next a w (hU.defs.trans d0) (hU.tmps.trans z0) hU.ext (endsS_of hU l Φ 0 (fun i o h => by simpa using h) (fun i φ h => by simpa using h)) fun t ht => hU.out t fun i o ho hd => ?_
    by_cases hq : fl.getD i false = true
    · exact .inr hq
    · left
      cases hp : lst.getD i false with
      | false => rfl
      | true =>
        exfalso
        have hm : t ∈ (l.zipIdx.filterMap fun y => if fl.getD y.2 false || !lst.getD y.2 false then none else y.1.dst) := by
          refine List.mem_filterMap.2 ⟨(o, i), ?_, ?_⟩
          · rw [List.mem_iff_getElem?]
            exact ⟨i, by simp [List.getElem?_zipIdx]; simpa using ho⟩
          · simp [hq, hp, hd]
        have : ((l.zipIdx.filterMap fun y => if fl.getD y.2 false || !lst.getD y.2 false then none else y.1.dst).contains t) = true := by simpa using hm
        rw [this] at ht; cases ht
  have hord : ∀ (i : Nat) (o : Oper), l.toArray[i]? = some o → ∀ e ∈ o.after, Region.binds .any e = true → e.on < i := by
    intro i o ho e he hb
    simp only [chkB, Bool.and_eq_true] at hB
    have := hB.2
    simp only [List.all_eq_true] at this
    have := this (o, i) (by
      rw [List.mem_iff_getElem?]
      exact ⟨i, by simp [List.getElem?_zipIdx]; simpa using ho⟩)
    simp only [List.all_eq_true, Bool.or_eq_true, Bool.not_eq_true', decide_eq_true_eq] at this
    rcases this e (by simpa using he) with h | h
    · rw [hb] at h; cases h
    · exact h
  have hreach : ∀ (lst : Array Bool) a w, UnderS w0 a0 l.toArray Φ anc fl fl' lst a w → (∀ i ∈ Region.ready .any l.toArray lst, fl'.getD i false = false) → ∀ i, fl'.getD i false = true → lst.getD i false = true := by
    intro lst a w hU hr i
    induction i using Nat.strongRecOn with
    | _ i ih =>
      intro hi
      cases hl : lst.getD i false with
      | true => rfl
      | false =>
        exfalso
        have hil := lt_of_true hs' hi
        have ho : l.toArray[i]? = some l.toArray[i] := by simp [hil]
        have : i ∈ Region.ready .any l.toArray lst := (ready_iff hU.size).2 ⟨_, ho, hl, fun e he hb => by
          have hlt := hord i _ ho e he hb
          by_cases hq : fl'.getD e.on false = true
          · exact ih e.on hlt hq
          · -- what binds an operation within lies within
            exfalso
            have hon : e.on < l.toArray.size := by omega
            rcases (hD e.on hon).2 with h | h
            · exact hq h
            · rcases h i hil with (h | h) | h
              · rw [hi] at h; cases h
              · rw [hU.lo i h] at hl; cases hl
              · -- e.on has i among those ahead of it, but stands ahead of i
                have key : ∀ (m : Nat) (x y : Nat), y ≤ m → y < l.toArray.size → x ∈ (anc[y]?).getD [] → x < y := by
                  intro m
                  induction m with
                  | zero =>
                    intro x y hy hys hx
                    have : y = 0 := by omega
                    subst this
                    obtain ⟨e', he', hb', hx'⟩ := anc_get hB (o := l.toArray[0]) (by simp [hys]) x hx
                    have := hord 0 _ (by simp [hys]) e' he' hb'
                    omega
                  | succ m ihm =>
                    intro x y hy hys hx
                    obtain ⟨e', he', hb', hx'⟩ := anc_get hB (o := l.toArray[y]) (by simp [hys]) x hx
                    have h9 := hord y _ (by simp [hys]) e' he' hb'
                    rcases hx' with rfl | hx'
                    · exact h9
                    · have := ihm x e'.on (by omega) (by omega) hx'
                      omega
                have := key e.on i e.on (Nat.le_refl _) hon (by simpa using h)
                omega⟩
        have := hr i this
        rw [hi] at this; cases this
  have main : ∀ (fuel : Nat) (lst : Array Bool) (a : Act) (w : World), UnderS w0 a0 l.toArray Φ anc fl fl' lst a w → Und l.toArray lst ≤ fuel → wpAny P .any l.toArray Q fuel lst a w := by
    intro fuel
    induction fuel with
    | zero =>
      intro lst a w hU hf
      refine fin lst a w hU (hreach lst a w hU fun i hi => ?_) 0 hf
      obtain ⟨o, ho, h1, _⟩ := (ready_iff hU.size).1 hi
      have := und_set (l := lst) (Array.getElem?_eq_some_iff.1 ho).1 (by rw [hU.size]; exact (Array.getElem?_eq_some_iff.1 ho).1) h1
      omega
    | succ f ih =>
      intro lst a w hU hf
      by_cases hall : ∀ i, fl'.getD i false = true → lst.getD i false = true
      · exact fin lst a w hU hall (f + 1) hf
      · refine ⟨fun hr => absurd (hreach lst a w hU fun i hi => (by rw [hr] at hi; cases hi)) hall, fun i hi => ?_⟩
        obtain ⟨o, ho, h1, h2⟩ := (ready_iff hU.size).1 hi
        have hil := (Array.getElem?_eq_some_iff.1 ho).1
        have hin : fl'.getD i false = true := by
          cases hq : fl'.getD i false with
          | true => rfl
          | false =>
            exfalso
            apply hall
            intro j hj
            cases hfj : fl.getD j false with
            | true => exact hU.lo j hfj
            | false =>
              rcases (hD i hil).2 with h | h
              · rw [hq] at h; cases h
              · have hjl := lt_of_true hs' hj
                rcases h j hjl with (h | h) | h
                · rw [hj] at h; cases h
                · rw [hfj] at h; cases h
                · obtain ⟨e', he', hb', hx'⟩ := anc_get hB ho j (by simpa using h)
                  have := h2 e' he' hb'
                  rcases hx' with rfl | hx'
                  · exact this
                  · exact hU.clo _ this j hx'
        refine wpOp_mono (fun a' w' hU' => ih _ a' w' hU' ?_) (underS_step z0 hB hT hO' hU ho h1 hin h2)
        have := und_set (l := lst) hil (by rw [hU.size]; exact hil) h1
        omega
  intro fuel hf
  refine main fuel fl a0 w0 ⟨hs, rfl, rfl, fun _ h => h, fun i h => ?_, fun i h j hj => ?_, fun _ _ => rfl, fun i o d _ _ h1 h2 => (by rw [h1] at h2; cases h2), Ext.refl _⟩ hf
  · have := (hD i (lt_of_true hs h)).1
    rcases this with h' | h'
    · rw [h] at h'; cases h'
    · exact h'
  · rcases hcl i (lt_of_true hs h) with h' | h'
    · rw [h] at h'; cases h'
    · exact h' j hj
end
end Go.Proofs.Yticodddigaiipaa
