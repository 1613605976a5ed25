/-
  The rule by which a region of operations is walked in whatever order it is drawn: each operation is looked at once.
-/
import Derived.Orders
import Derived.Below
import Derived.Tactics
set_option linter.unusedVariables false
set_option linter.unusedSectionVars false
namespace Go.Proofs.Yticodddigaiipaa
open Go.RowKit

/-! ### Worlds -/

/-- Of the blocks that were there none has turned, but those of F. -/
structure Touch (F : Nat → Prop) (w w' : World) : Prop where
  os : w'.os = w.os
  tape : w'.tape = w.tape
  output : w'.output = w.output
  size : w.heap.size ≤ w'.heap.size
  block : ∀ k, k < w.heap.size → ¬ F k → w'.heap[k]? = w.heap[k]?

/-- Nothing that was there has turned. -/
def Ext (w w' : World) : Prop := Below w.heap.size w w'

theorem Ext.refl (w : World) : Ext w w := Below.refl _ _
theorem Ext.trans {a b c : World} (h : Ext a b) (k : Ext b c) : Ext a c :=
  Below.trans h ⟨k.os, k.tape, k.output, k.size, fun i hi => k.block i (Nat.lt_of_lt_of_le hi h.size)⟩
theorem Ext.touch {F : Nat → Prop} {w w' : World} (h : Ext w w') : Touch F w w' := ⟨h.os, h.tape, h.output, h.size, fun k hk _ => h.block k hk⟩
theorem Ext.keep {w w' : World} (h : Ext w w') {b : Nat} {o : Obj} (hb : w.heap[b]? = some o) : w'.heap[b]? = some o :=
  (h.block b (Array.getElem?_eq_some_iff.1 hb).1).trans hb
theorem Ext.drawn (w : World) (n : Nat) : Ext w { w with drawn := n } := ⟨rfl, rfl, rfl, Nat.le_refl _, fun _ _ => rfl⟩

theorem Touch.refl (F : Nat → Prop) (w : World) : Touch F w w := (Ext.refl w).touch
theorem Touch.trans {F : Nat → Prop} {a b c : World} (h : Touch F a b) (k : Touch F b c) : Touch F a c :=
  ⟨k.os.trans h.os, k.tape.trans h.tape, k.output.trans h.output, Nat.le_trans h.size k.size, fun i hi hn => (k.block i (Nat.lt_of_lt_of_le hi h.size) hn).trans (h.block i hi hn)⟩
theorem Touch.ext {w w' : World} (h : Touch (fun _ => False) w w') : Ext w w' := ⟨h.os, h.tape, h.output, h.size, fun k hk => h.block k hk id⟩
theorem Touch.mono {F G : Nat → Prop} {w w' : World} (h : Touch F w w') (hs : ∀ k, k < w.heap.size → F k → G k) : Touch G w w' :=
  ⟨h.os, h.tape, h.output, h.size, fun k hk hn => h.block k hk fun hf => hn (hs k hk hf)⟩
theorem Touch.keep {F : Nat → Prop} {w w' : World} (h : Touch F w w') {b : Nat} {o : Obj} (hb : w.heap[b]? = some o) (hn : ¬ F b) : w'.heap[b]? = some o :=
  (h.block b (Array.getElem?_eq_some_iff.1 hb).1 hn).trans hb

/-! ### One operation -/

/-- The operation hands back a value and a world of K. -/
def DoesX (P : Program) (o : Oper) (a : Act) (w : World) (K : Value → World → Prop) : Prop :=
  o.wp P a w (fun a' w' => ∃ v, a' = a.put o.dst v ∧ K v w') (fun _ _ _ => False)

/-- .. or isn't wanted. -/
def Does (P : Program) (ops : Array Oper) (o : Oper) (a : Act) (w : World) (K : Value → World → Prop) : Prop :=
  if Region.wanted o (yielded ops a.tmps) = true then DoesX P o a w K else K undef w

theorem wp_mono2 {P : Program} {o : Oper} {a : Act} {w : World} {K K' : Act → World → Prop} {Q Q' : Exit → Act → World → Prop} (h : ∀ a w, K a w → K' a w) (hq : ∀ e a w, Q e a w → Q' e a w)
    (hh : o.wp P a w K Q) : o.wp P a w K' Q' := by
  unfold Oper.wp at *
  generalize (execOp a.eval o).run P w = r at *
  cases r with
  | ok n w' =>
    cases n <;> simp only [Oper.upon] at hh ⊢ <;>
      first
        | exact h _ _ hh
        | exact Calls.mono hh (fun e w'' he => by
            cases e with
            | returned v => exact h _ _ he
            | panicked c => exact hq _ _ _ he
            | outgrown => obtain ⟨a, w, hx⟩ := he; exact ⟨a, w, hq _ _ _ hx⟩)
        | exact Rows.mono hh (fun _ _ he => h _ _ he)
  | halt x w' => cases x <;> simp only [Oper.upon] at hh ⊢ <;> first | exact hq _ _ _ hh | exact hh

/-! ### The rule -/

/-- A predicate of a slot's value that stays, whatever turns in F. -/
structure Pd (F : Nat → Prop) where
  p : Value → World → Prop
  st : ∀ {v w w'}, p v w → Touch F w w' → p v w'

/-- The slot holds this. -/
def Pd.eq {F : Nat → Prop} (v : Value) : Pd F := ⟨fun x _ => x = v, fun h _ => h⟩

/-- Nothing is said. -/
def Pd.any {F : Nat → Prop} : Pd F := ⟨fun _ _ => True, fun h _ => h⟩

/-- What the operations that aren't counted as writing may do to memory. -/
structure Gr where
  r : World → World → Prop
  ext : ∀ {w w'}, r w w' → Ext w w'
  drawn : ∀ w n, r w { w with drawn := n }

/-- They may lay blocks. -/
def Gr.grow : Gr := ⟨Ext, fun h => h, Ext.drawn⟩

/-- What is known of memory, and of the writing operations' own slots (dl), behind so many of them; it stays through all others. -/
structure Inv (G : Gr) (dl : List Nat) where
  p : Nat → Act → World → Prop
  st : ∀ {n a a' w w'}, p n a w → (∀ d ∈ dl, a'.eval (.tmp d) = a.eval (.tmp d)) → G.r w w' → p n a' w'

def Inv.none {G : Gr} {dl : List Nat} : Inv G dl := ⟨fun _ _ _ => True, fun h _ _ => h⟩
/-- Of memory alone. -/
def Inv.mem {G : Gr} {dl : List Nat} (p : Nat → World → Prop) (st : ∀ {n w w'}, p n w → G.r w w' → p n w') : Inv G dl := ⟨fun n _ w => p n w, fun h _ k => st h k⟩

section
variable (P : Program) (F : Nat → Prop) {G : Gr} {dl : List Nat} (I : Inv G dl) (w0 : World) (a0 : Act) (ops : Array Oper) (Φ : List (Pd F)) (tbl : List (List (Nat × Option Nat))) (anc : List (List Nat)) (sp : List Nat)

def Know (a : Act) (w : World) : List (Nat × Option Nat) → Prop
  | [] => True
  | (t, none) :: r => a.eval (.tmp t) = a0.eval (.tmp t) ∧ Know a w r
  | (t, some j) :: r => ((Φ[j]?).getD Pd.any).p (a.eval (.tmp t)) w ∧ Know a w r

/-- How many of the writing operations are done when operation i comes up: at least, at most. -/
def loPh (i : Nat) : Nat := sp.countP fun s => ((anc[i]?).getD []).contains s
def hiPh (i : Nat) : Nat := sp.length - sp.countP fun s => s == i || ((anc[s]?).getD []).contains i

/-- What is to be shown of operation i. -/
def Obl (i : Nat) (o : Oper) (φ : Pd F) (k : List (Nat × Option Nat)) : Prop :=
  ∀ (a : Act) (w : World) (p : Nat), loPh anc sp i ≤ p → p ≤ hiPh anc sp i → Touch F w0 w → I.p p a w → Know F a0 Φ a w k →
    Does P ops o a w (fun v w' => (if sp.contains i = true then Touch F w w' ∧ I.p (p + 1) (a.put o.dst v) w' else G.r w w') ∧ φ.p v w')

def Obls : Nat → List Oper → List (Pd F) → List (List (Nat × Option Nat)) → Prop
  | i, o :: os, φ :: φs, k :: ks => Obl P F I w0 a0 ops Φ anc sp i o φ k ∧ Obls (i + 1) os φs ks
  | _, [], [], [] => True
  | _, _, _, _ => False

/-- What is known in the end. -/
def Ends (a : Act) (w : World) : List Oper → List (Pd F) → Prop
  | o :: os, φ :: φs => (match o.dst with | some d => φ.p (a.eval (.tmp d)) w | none => True) ∧ Ends a w os φs
  | _, _ => True

def dsts : List Nat := ops.toList.filterMap (·.dst)

def chkAnc : List Oper → List (List Nat) → Bool
  | o :: os, l :: ls => l.all (fun j => o.after.toList.any fun e => Region.binds .any e && (e.on == j || ((anc[e.on]?).getD []).contains j)) && chkAnc os ls
  | [], [] => true
  | _, _ => false

def chkTbl : Nat → List (List (Nat × Option Nat)) → Bool
  | i, k :: ks => k.all (fun x => match x.2 with
      | some j => ((anc[i]?).getD []).contains j && (((ops[j]?).map (·.dst == some x.1)).getD false)
      | none => ops.toList.zipIdx.all fun y => y.2 == i || y.1.dst != some x.1 || ((anc[y.2]?).getD []).contains i) && chkTbl (i + 1) ks
  | _, [] => true

def nodups : List Nat → Bool
  | [] => true
  | x :: r => !r.contains x && nodups r

/-- All that can be seen by looking at the region. -/
def chk (n : Nat) : Bool :=
  chkAnc anc ops.toList anc && chkTbl ops anc 0 tbl && nodups (dsts ops) && (dsts ops).all (fun d => decide (d < n)) &&
  ops.toList.zipIdx.all (fun y => y.1.after.toList.all fun e => !Region.binds .any e || decide (e.on < y.2))

end


section
variable {P : Program} {F : Nat → Prop} {G : Gr} {dl : List Nat} {I : Inv G dl} {w0 : World} {a0 : Act} {ops : Array Oper} {Φ : List (Pd F)} {tbl : List (List (Nat × Option Nat))} {anc : List (List Nat)} {sp : List Nat}

theorem Obls.get : ∀ {k : Nat} {os : List Oper} {φs : List (Pd F)} {ks : List (List (Nat × Option Nat))}, Obls P F I w0 a0 ops Φ anc sp k os φs ks → ∀ (i : Nat) (o : Oper), os[i]? = some o →
    ∃ φ kk, φs[i]? = some φ ∧ ks[i]? = some kk ∧ Obl P F I w0 a0 ops Φ anc sp (k + i) o φ kk
  | k, o :: os, φ :: φs, kk :: ks, h, 0, o', ho => by
    simp at ho; subst ho
    exact ⟨φ, kk, rfl, rfl, h.1⟩
  | k, o :: os, φ :: φs, kk :: ks, h, i + 1, o', ho => by
    obtain ⟨φ', kk', h1, h2, h3⟩ := Obls.get h.2 i o' (by simpa using ho)
    refine ⟨φ', kk', by simpa using h1, by simpa using h2, ?_⟩
    rw [show k + (i + 1) = k + 1 + i from by omega]
    exact h3
  | _, [], _, _, _, _, _, ho => by simp at ho
  | _, _ :: _, [], _, h, _, _, _ => h.elim
  | _, _ :: _, _ :: _, [], h, _, _, _ => h.elim

theorem chkAnc_get {n : Nat} : ∀ {os : List Oper} {ls : List (List Nat)}, chkAnc anc os ls = true → ∀ (i : Nat) (o : Oper) (l : List Nat), os[i]? = some o → ls[i]? = some l →
    ∀ j ∈ l, ∃ e ∈ o.after, Region.binds .any e = true ∧ (e.on = j ∨ j ∈ (anc[e.on]?).getD [])
  | o :: os, l :: ls, h, 0, o', l', ho, hl => by
    simp only [List.length_cons, Nat.zero_lt_succ, getElem?_pos, List.getElem_cons_zero, Option.some.injEq] at ho hl
    subst ho; subst hl
    intro j hj
    simp only [chkAnc, Bool.and_eq_true, List.all_eq_true] at h
    have := h.1 j hj
    simp only [List.any_eq_true, Bool.and_eq_true, Bool.or_eq_true, beq_iff_eq] at this
    obtain ⟨e, he, hb, hx⟩ := this
    exact ⟨e, by simpa using he, hb, hx.imp id (fun h => by simpa using h)⟩
  | o :: os, l :: ls, h, i + 1, o', l', ho, hl => by
    simp only [chkAnc, Bool.and_eq_true] at h
    exact chkAnc_get (n := n) h.2 i o' l' (by simpa using ho) (by simpa using hl)
  | [], _, _, _, _, _, ho, _ => by simp at ho
  | _ :: _, [], _, _, _, _, _, hl => by simp at hl

theorem chkTbl_get : ∀ {k : Nat} {ks : List (List (Nat × Option Nat))}, chkTbl ops anc k ks = true → ∀ (i : Nat) (kk : List (Nat × Option Nat)), ks[i]? = some kk → ∀ x ∈ kk,
    (∀ j, x.2 = some j → j ∈ (anc[k + i]?).getD [] ∧ (∃ o, ops[j]? = some o ∧ o.dst = some x.1)) ∧
    (x.2 = none → ∀ j o, ops[j]? = some o → o.dst = some x.1 → j = k + i ∨ k + i ∈ (anc[j]?).getD [])
  | k, kk :: ks, h, 0, kk', hk => by
    simp only [List.length_cons, Nat.zero_lt_succ, getElem?_pos, List.getElem_cons_zero, Option.some.injEq] at hk
    subst hk
    simp only [chkTbl, Bool.and_eq_true, List.all_eq_true] at h
    intro x hx
    have := h.1 x hx
    refine ⟨fun j hj => ?_, fun hn j o hj ho => ?_⟩
    · rw [hj] at this
      simp only [Bool.and_eq_true] at this
      obtain ⟨h1, h2⟩ := this
      refine ⟨by simpa using h1, ?_⟩
      cases hoj : ops[j]? with
      | none => rw [hoj] at h2; simp at h2
      | some o => rw [hoj] at h2; exact ⟨o, rfl, by simpa using h2⟩
    · rw [hn] at this
      simp only [List.all_eq_true, Bool.or_eq_true] at this
      have := this (o, j) (by
        rw [List.mem_iff_getElem?]
        exact ⟨j, by simp [List.getElem?_zipIdx, hj]⟩)
      simp only [beq_iff_eq, bne_iff_ne, ne_eq] at this
      rcases this with (h1 | h1) | h1
      · exact .inl (by simpa using h1)
      · exact absurd ho h1
      · exact .inr (by simpa using h1)
  | k, kk :: ks, h, i + 1, kk', hk => by
    simp only [chkTbl, Bool.and_eq_true] at h
    have := chkTbl_get h.2 i kk' (by simpa using hk)
    rw [show k + 1 + i = k + (i + 1) from by omega] at this
    exact this
  | _, [], _, _, _, hk => by simp at hk

theorem nodups_apart : ∀ {os : List Oper}, nodups (os.filterMap (·.dst)) = true → ∀ (i j : Nat) (o o' : Oper) (d : Nat), os[i]? = some o → os[j]? = some o' → o.dst = some d → o'.dst = some d → i = j
  | [], _, i, _, _, _, _, h, _, _, _ => by simp at h
  | x :: os, h, 0, 0, _, _, _, _, _, _, _ => rfl
  | x :: os, h, 0, j + 1, o, o', d, hi, hj, hd, hd' => by
    simp at hi; subst hi
    simp only [List.filterMap_cons, hd, nodups, Bool.and_eq_true] at h
    have : d ∈ os.filterMap (·.dst) := List.mem_filterMap.2 ⟨o', List.mem_of_getElem? (by simpa using hj), hd'⟩
    simp at h
    exact absurd hd' (h.1 o' (List.mem_of_getElem? (by simpa using hj)))
  | x :: os, h, i + 1, 0, o, o', d, hi, hj, hd, hd' => by
    simp at hj; subst hj
    simp only [List.filterMap_cons, hd', nodups, Bool.and_eq_true] at h
    simp at h
    exact absurd hd (h.1 o (List.mem_of_getElem? (by simpa using hi)))
  | x :: os, h, i + 1, j + 1, o, o', d, hi, hj, hd, hd' => by
    have h' : nodups (os.filterMap (·.dst)) = true := by
      cases hx : x.dst with
      | none => simpa [List.filterMap_cons, hx] using h
      | some y => simp only [List.filterMap_cons, hx, nodups, Bool.and_eq_true] at h; exact h.2
    rw [nodups_apart h' i j o o' d (by simpa using hi) (by simpa using hj) hd hd']

theorem eval_put_same {a : Act} {d : Nat} {v : Value} (h : d < a.tmps.size) : (a.put (some d) v).eval (.tmp d) = v := by
  simp [Act.eval, Act.put, h]
theorem eval_put_other {a : Act} {o : Option Nat} {t : Nat} {v : Value} (h : o ≠ some t) : (a.put o v).eval (.tmp t) = a.eval (.tmp t) :=
  Act.eval_put (fun d hd e => h (by rw [hd]; injection e with e; rw [e]))
theorem put_size (a : Act) (o : Option Nat) (v : Value) : (a.put o v).tmps.size = a.tmps.size := by cases o <;> simp [Act.put]
theorem put_defers (a : Act) (o : Option Nat) (v : Value) : (a.put o v).defers = a.defers := by cases o <;> rfl

/-- What holds while a region is under way. -/
structure Under (F : Nat → Prop) {G : Gr} {dl : List Nat} (I : Inv G dl) (w0 : World) (a0 : Act) (ops : Array Oper) (Φ : List (Pd F)) (anc : List (List Nat)) (sp : List Nat) (l : Array Bool) (a : Act) (w : World) : Prop where
  size : l.size = ops.size
  defs : a.defers = a0.defers
  tmps : a.tmps.size = a0.tmps.size
  clo : ∀ i, l.getD i false = true → ∀ j ∈ (anc[i]?).getD [], l.getD j false = true
  out : ∀ t, (∀ i o, ops[i]? = some o → o.dst = some t → l.getD i false = false) → a.eval (.tmp t) = a0.eval (.tmp t)
  phi : ∀ i o d, ops[i]? = some o → o.dst = some d → l.getD i false = true → ((Φ[i]?).getD Pd.any).p (a.eval (.tmp d)) w
  touch : Touch F w0 w
  inv : I.p (sp.countP fun s => l.getD s false) a w

theorem countP_apart {α : Type} (f g : α → Bool) (h : ∀ x, f x = true → g x = true → False) : ∀ l : List α, l.countP f + l.countP g ≤ l.length
  | [] => by simp
  | x :: l => by
    have := countP_apart f g h l
    simp only [List.countP_cons, List.length_cons]
    cases hf : f x <;> cases hg : g x <;> simp <;> first | omega | exact (h x hf hg).elim

theorem countP_set : ∀ (sp : List Nat) (l : Array Bool) (i : Nat), i < l.size → l.getD i false = false → nodups sp = true →
    sp.countP (fun s => (l.setIfInBounds i true).getD s false) = sp.countP (fun s => l.getD s false) + (if sp.contains i then 1 else 0)
  | [], _, _, _, _, _ => by simp
  | x :: sp, l, i, hi, hf, hn => by
    simp only [nodups, Bool.and_eq_true, Bool.not_eq_true'] at hn
    have ih := countP_set sp l i hi hf hn.2
    simp only [List.countP_cons, ih]
    by_cases hx : x = i
    · subst hx
      have h1 : (l.setIfInBounds x true).getD x false = true := by simp [Array.getD_eq_getD_getElem?, hi]
      have h2 : sp.contains x = false := hn.1
      rw [h1, h2, hf]
      simp
    · have h1 : (l.setIfInBounds i true).getD x false = l.getD x false := by
        simp only [Array.getD_eq_getD_getElem?]
        rw [Array.getElem?_setIfInBounds_ne (fun e => hx e.symm)]
      rw [h1]
      have : (x :: sp).contains i = sp.contains i := by
        simp only [List.contains_cons]
        have : (i == x) = false := by simpa using fun e : i = x => hx e.symm
        rw [this]; simp
      rw [this]
      omega

theorem know_of {l : Array Bool} {a : Act} {w : World} (hU : Under F I w0 a0 ops Φ anc sp l a w) {i : Nat} (hani : ∀ j ∈ (anc[i]?).getD [], l.getD j false = true) (hni : l.getD i false = false) : ∀ (kk : List (Nat × Option Nat)),
    (∀ x ∈ kk, (∀ j, x.2 = some j → j ∈ (anc[i]?).getD [] ∧ (∃ o, ops[j]? = some o ∧ o.dst = some x.1)) ∧ (x.2 = none → ∀ j o, ops[j]? = some o → o.dst = some x.1 → j = i ∨ i ∈ (anc[j]?).getD [])) → Know F a0 Φ a w kk
  | [], _ => trivial
  | (t, none) :: r, h => by
    refine ⟨hU.out t fun j o hj ho => ?_, know_of hU hani hni r fun x hx => h x (by simp [hx])⟩
    rcases (h (t, none) (by simp)).2 rfl j o hj ho with rfl | hd
    · exact hni
    · cases hl : l.getD j false with
      | false => rfl
      | true => rw [hU.clo j hl i hd] at hni; cases hni
  | (t, some j) :: r, h => by
    obtain ⟨h1, o, hj, ho⟩ := (h (t, some j) (by simp)).1 j rfl
    exact ⟨hU.phi j o t hj ho (hani j h1), know_of hU hani hni r fun x hx => h x (by simp [hx])⟩

theorem under_step {n : Nat} (hn : a0.tmps.size = n) (hc : chk ops tbl anc n = true) (hsp : nodups sp = true) (hdl : ∀ d ∈ dl, ∃ s ∈ sp, ∃ o, ops[s]? = some o ∧ o.dst = some d) (hO : Obls P F I w0 a0 ops Φ anc sp 0 ops.toList Φ tbl) {l : Array Bool} {a : Act} {w : World}
    (hU : Under F I w0 a0 ops Φ anc sp l a w) {i : Nat} (hi : i < ops.size) (hni : l.getD i false = false) (hdep : ∀ o, ops[i]? = some o → ∀ e ∈ o.after, Region.binds .any e = true → l.getD e.on false = true) {Q : Exit → Act → World → Prop} :
    wpOp P ops Q i (Under F I w0 a0 ops Φ anc sp (l.setIfInBounds i true)) a w := by
  simp only [chk, Bool.and_eq_true] at hc
  obtain ⟨⟨⟨⟨hcA, hcT⟩, hcD⟩, hcN⟩, _⟩ := hc
  obtain ⟨o, ho⟩ : ∃ o, ops[i]? = some o := ⟨ops[i], by simp [hi]⟩
  have hol : ops.toList[i]? = some o := by simpa using ho
  obtain ⟨φ, kk, hφ, hkk, hob⟩ := hO.get i o hol
  rw [Nat.zero_add] at hob
  have hani : ∀ j ∈ (anc[i]?).getD [], l.getD j false = true := by
    intro j hj
    cases hl : anc[i]? with
    | none => rw [hl] at hj; simp at hj
    | some li =>
      rw [hl] at hj
      obtain ⟨e, he, hb, hx⟩ := chkAnc_get (n := n) hcA i o li hol hl j (by simpa using hj)
      have he' := hdep o ho e he hb
      rcases hx with rfl | hx
      · exact he'
      · exact hU.clo _ he' j hx
  have hK : Know F a0 Φ a w kk := know_of hU hani hni kk (fun x hx => by
    have := chkTbl_get hcT i kk hkk x hx
    rw [Nat.zero_add] at this
    exact this)
  have hlo : loPh anc sp i ≤ sp.countP fun s => l.getD s false := List.countP_mono_left fun s _ hs => hani s (by simpa using hs)
  have hhi : (sp.countP fun s => l.getD s false) ≤ hiPh anc sp i := by
    have := countP_apart (fun s => l.getD s false) (fun s => s == i || ((anc[s]?).getD []).contains i) (fun s h1 h2 => by
      simp only [Bool.or_eq_true, beq_iff_eq] at h2
      rcases h2 with rfl | h2
      · rw [h1] at hni; cases hni
      · rw [hU.clo s h1 i (by simpa using h2)] at hni; cases hni) sp
    unfold hiPh; omega
  have hD := hob a w _ hlo hhi hU.touch hU.inv hK
  have hil : i < l.size := by rw [hU.size]; exact hi
  have hset : ∀ j, (l.setIfInBounds i true).getD j false = (l.getD j false || j == i) := by
    intro j
    by_cases hji : j = i
    · subst hji; simp [Array.getD_eq_getD_getElem?, hil]
    · simp only [Array.getD_eq_getD_getElem?]
      rw [Array.getElem?_setIfInBounds_ne (fun e => hji e.symm)]
      simp [hji]
  have fin : ∀ v w', ((if sp.contains i = true then Touch F w w' ∧ I.p ((sp.countP fun s => l.getD s false) + 1) (a.put o.dst v) w' else G.r w w') ∧ φ.p v w') → Under F I w0 a0 ops Φ anc sp (l.setIfInBounds i true) (a.put o.dst v) w' := by
    intro v w' ⟨hw, hv⟩
    have ht : Touch F w w' := by
      split at hw
      · exact hw.1
      · exact (G.ext hw).touch
    refine ⟨by simp [hU.size], (put_defers ..).trans hU.defs, (put_size ..).trans hU.tmps, fun j hj k hk => ?_, fun t h => ?_, fun j oj d hj hd hl => ?_, hU.touch.trans ht, ?_⟩
    · rw [hset] at hj ⊢
      simp only [Bool.or_eq_true, beq_iff_eq] at hj ⊢
      rcases hj with hj | rfl
      · exact .inl (hU.clo j hj k hk)
      · exact .inl (hani k hk)
    · have hne : o.dst ≠ some t := fun e => by
        have := h i o ho e
        rw [hset] at this; simp at this
      rw [eval_put_other hne]
      refine hU.out t fun j oj hj hd => ?_
      have := h j oj hj hd
      rw [hset] at this
      simp only [Bool.or_eq_false_iff] at this
      exact this.1
    · rw [hset] at hl
      by_cases hji : j = i
      · subst hji
        rw [ho] at hj; injection hj with hj; subst hj
        rw [hd, eval_put_same (by
          rw [hU.tmps, hn]
          have : d ∈ dsts ops := List.mem_filterMap.2 ⟨o, List.mem_of_getElem? hol, hd⟩
          simpa using List.all_eq_true.1 hcN d this)]
        rw [hφ]
        exact hv
      · have hl' : l.getD j false = true := by
          simp only [Bool.or_eq_true, beq_iff_eq] at hl
          exact hl.resolve_right hji
        have hne : o.dst ≠ some d := fun e => hji (nodups_apart hcD j i oj o d (by simpa using hj) hol hd e)
        rw [eval_put_other hne]
        exact ((Φ[j]?).getD Pd.any).st (hU.phi j oj d hj hd hl') ht
    · rw [countP_set sp l i hil hni hsp]
      split at hw
      · rename_i hs
        rw [if_pos hs]; exact hw.2
      · rename_i hs
        rw [if_neg hs]
        refine I.st hU.inv (fun d hd => eval_put_other fun e => ?_) hw
        obtain ⟨s, hs', os, hos, hds⟩ := hdl d hd
        have := nodups_apart hcD s i os o d (by simpa using hos) hol hds e
        subst this
        exact hs (by simpa using hs')
  unfold wpOp
  rw [ho]
  simp only
  unfold Does at hD
  split
  · rename_i hw
    rw [if_pos hw] at hD
    refine .inl (wp_mono2 (fun a' w' h => ?_) (fun _ _ _ h => h.elim) hD)
    obtain ⟨v, rfl, hv⟩ := h
    exact fin v w' hv
  · rename_i hw
    rw [if_neg hw] at hD
    exact fin undef w hD

theorem under_any {n : Nat} (hn : a0.tmps.size = n) (hc : chk ops tbl anc n = true) (hsp : nodups sp = true) (hdl : ∀ d ∈ dl, ∃ s ∈ sp, ∃ o, ops[s]? = some o ∧ o.dst = some d) (hO : Obls P F I w0 a0 ops Φ anc sp 0 ops.toList Φ tbl) {Q : Exit → Act → World → Prop}
    (hQ : ∀ l a w, Under F I w0 a0 ops Φ anc sp l a w → (∀ i, i < ops.size → l.getD i false = true) → Q .normal a w) :
    ∀ (fuel : Nat) (l : Array Bool) (a : Act) (w : World), Under F I w0 a0 ops Φ anc sp l a w → ((List.range ops.size).countP fun i => !l.getD i false) ≤ fuel → wpAny P .any ops Q fuel l a w := by
  have hall : ∀ (l : Array Bool) a w, Under F I w0 a0 ops Φ anc sp l a w → Region.ready .any ops l = [] → ∀ i, i < ops.size → l.getD i false = true := by
    intro l a w hU hr
    have hord : ∀ (i : Nat) (o : Oper), ops[i]? = some o → ∀ e ∈ o.after, Region.binds .any e = true → e.on < i := by
      intro i o ho e he hb
      simp only [chk, Bool.and_eq_true] at hc
      have := hc.2
      simp only [List.all_eq_true] at this
      have := this (o, i) (by
        rw [List.mem_iff_getElem?]
        exact ⟨i, by simp [List.getElem?_zipIdx, ho]⟩)
      simp only [List.all_eq_true, Bool.or_eq_true, Bool.not_eq_true', decide_eq_true_eq] at this
      rcases this e (by simpa using he) with h | h
      · rw [hb] at h; cases h
      · exact h
    intro i
    induction i using Nat.strongRecOn with
    | _ i ih =>
      intro hi
      cases hl : l.getD i false with
      | true => rfl
      | false =>
        have : i ∈ Region.ready .any ops l := by
          unfold Region.ready
          refine List.mem_filter.2 ⟨List.mem_range.2 hi, ?_⟩
          have hil : i < l.size := by rw [hU.size]; exact hi
          have h1 : l.getD i true = false := by
            simp only [Array.getD_eq_getD_getElem?, Array.getElem?_eq_getElem hil, Option.getD_some] at hl ⊢
            exact hl
          have ho : ops[i]? = some ops[i] := by simp [hi]
          rw [h1, ho]
          simp only [Bool.not_false, Bool.true_and, Option.map_some, Option.getD_some, Array.all_eq_true', Bool.or_eq_true, Bool.not_eq_true']
          intro e he
          cases hb : Region.binds .any e with
          | false => exact .inl rfl
          | true =>
            have hlt := hord i _ ho e he hb
            exact .inr (ih e.on hlt (by omega))
        rw [hr] at this
        cases this
  intro fuel
  induction fuel with
  | zero =>
    intro l a w hU hf
    have hr : Region.ready .any ops l = [] := by
      apply List.eq_nil_iff_forall_not_mem.2
      intro i hi
      unfold Region.ready at hi
      obtain ⟨h1, h2⟩ := List.mem_filter.1 hi
      simp only [Bool.and_eq_true, Bool.not_eq_true'] at h2
      have hil : i < l.size := by rw [hU.size]; exact List.mem_range.1 h1
      have h3 : l.getD i false = false := by
        have := h2.1
        simp only [Array.getD_eq_getD_getElem?, Array.getElem?_eq_getElem hil, Option.getD_some] at this ⊢
        exact this
      have : 0 < (List.range ops.size).countP fun i => !l.getD i false := List.countP_pos_iff.2 ⟨i, h1, by rw [h3]; rfl⟩
      omega
    exact ⟨hr, hQ l a w hU (hall l a w hU hr)⟩
  | succ fuel ihf =>
    intro l a w hU hf
    refine ⟨fun hr => hQ l a w hU (hall l a w hU hr), fun i hi => ?_⟩
    unfold Region.ready at hi
    obtain ⟨h1, h2⟩ := List.mem_filter.1 hi
    have hio := List.mem_range.1 h1
    have hil : i < l.size := by rw [hU.size]; exact hio
    simp only [Bool.and_eq_true, Bool.not_eq_true'] at h2
    have h3 : l.getD i false = false := by
      have := h2.1
      simp only [Array.getD_eq_getD_getElem?, Array.getElem?_eq_getElem hil, Option.getD_some] at this ⊢
      exact this
    refine wpOp_mono (fun a' w' hU' => ihf _ a' w' hU' ?_) (under_step hn hc hsp hdl hO hU hio h3 (fun o ho e he hb => ?_))
    · have key : ((List.range ops.size).countP fun j => !(l.setIfInBounds i true).getD j false) + 1 ≤ (List.range ops.size).countP fun j => !l.getD j false := by
        have hg : ∀ (r : List Nat), i ∈ r → (r.countP fun j => !(l.setIfInBounds i true).getD j false) + 1 ≤ r.countP fun j => !l.getD j false := by
          have hset : ∀ j, (l.setIfInBounds i true).getD j false = (l.getD j false || j == i) := by
            intro j
            by_cases hji : j = i
            · subst hji; simp [Array.getD_eq_getD_getElem?, hil]
            · simp only [Array.getD_eq_getD_getElem?]
              rw [Array.getElem?_setIfInBounds_ne (fun e => hji e.symm)]
              simp [hji]
          intro r
          induction r with
          | nil => intro h; simp at h
          | cons x r ih =>
            intro hx
            simp only [List.countP_cons]
            have hle : (r.countP fun j => !(l.setIfInBounds i true).getD j false) ≤ r.countP fun j => !l.getD j false := by
              apply List.countP_mono_left
              intro y _ hy
              rw [hset] at hy
              simp only [Bool.not_eq_true', Bool.or_eq_false_iff] at hy ⊢
              exact hy.1
            by_cases hxi : x = i
            · subst hxi
              rw [hset, h3]
              simp
              simpa using hle
            · have := ih ((List.mem_cons.1 hx).resolve_left (fun e => hxi e.symm))
              rw [hset]
              have hb : (x == i) = false := by simpa using hxi
              rw [hb, Bool.or_false]
              omega
        exact hg _ h1
      omega
    · rw [ho] at h2
      have h4 := h2.2
      simp only [Option.map_some, Option.getD_some, Array.all_eq_true', Bool.or_eq_true, Bool.not_eq_true'] at h4
      rcases h4 e he with h | h
      · rw [hb] at h; cases h
      · exact h

theorem ends_of {l : Array Bool} {a : Act} {w : World} (hU : Under F I w0 a0 ops Φ anc sp l a w) (hl : ∀ i, i < ops.size → l.getD i false = true) : ∀ (os : List Oper) (φs : List (Pd F)) (k : Nat),
    (∀ i o, os[i]? = some o → ops[k + i]? = some o) → (∀ i φ, φs[i]? = some φ → Φ[k + i]? = some φ) → Ends F a w os φs
  | [], _, _, _, _ => by unfold Ends; trivial
  | _ :: _, [], _, _, _ => by unfold Ends; trivial
  | o :: os, φ :: φs, k, h1, h2 => by
    refine ⟨?_, ends_of hU hl os φs (k + 1) (fun i o' h => ?_) (fun i φ' h => ?_)⟩
    · have ho := h1 0 o rfl
      have hφ := h2 0 φ rfl
      rw [Nat.add_zero] at ho hφ
      cases hd : o.dst with
      | none => trivial
      | some d =>
        have := hU.phi k o d ho hd (hl k (Array.getElem?_eq_some_iff.1 ho).1)
        rw [hφ] at this
        exact this
    · have := h1 (i + 1) o' (by simpa using h)
      rwa [show k + (i + 1) = k + 1 + i from by omega] at this
    · have := h2 (i + 1) φ' (by simpa using h)
      rwa [show k + (i + 1) = k + 1 + i from by omega] at this

theorem under_begin (h0 : I.p 0 a0 w0) (w : World) (hw : G.r w0 w) : Under F I w0 a0 ops Φ anc sp (Array.replicate ops.size false) a0 w := by
  have hf : ∀ i, (Array.replicate ops.size false).getD i false = false := by
    intro i
    simp only [Array.getD_eq_getD_getElem?, Array.getElem?_replicate]
    split <;> rfl
  refine ⟨by simp, rfl, rfl, fun i h => ?_, fun _ _ => rfl, fun i o d _ _ h => ?_, (G.ext hw).touch, ?_⟩
  · rw [hf] at h; cases h
  · rw [hf] at h; cases h
  · have : (sp.countP fun s => (Array.replicate ops.size false).getD s false) = 0 := by
      rw [List.countP_eq_zero]; intro s _ h; rw [hf] at h; cases h
    rw [this]; exact I.st h0 (fun _ _ => rfl) hw

theorem under_begin' (h0 : I.p 0 a0 w0) : Under F I w0 a0 ops Φ anc sp (Array.replicate ops.size false) a0 w0 := by
  have h := under_begin (F := F) (ops := ops) (Φ := Φ) (anc := anc) (sp := sp) h0 _ (G.drawn w0 w0.drawn)
  exact h

/-- A REGION, IN WHATEVER ORDER: each operation looked at once. -/
theorem region_rule {l : List Oper} {id : Nat} {draw : Bool} {Q : Exit → Act → World → Prop} (n : Nat) (Φ : List (Pd F)) (tbl : List (List (Nat × Option Nat))) (anc : List (List Nat)) (sp : List Nat) (hn : a0.tmps.size = n)
    (hm : P.follows .mixedOrders = true) (hc : chk l.toArray tbl anc n = true) (hsp : (nodups sp && sp.all (fun x => decide (x < l.length))) = true) (h0 : I.p 0 a0 w0) (hdl : (dl.all fun d => sp.any fun s => ((l[s]?).map (·.dst == some d)).getD false) = true)
    (hO : Obls P F I w0 a0 l.toArray Φ anc sp 0 l Φ tbl)
    (hend : ∀ a w, a.defers = a0.defers → a.tmps.size = n → Touch F w0 w → I.p sp.length a w → Ends F a w l Φ → (∀ t, (dsts l.toArray).contains t = false → a.eval (.tmp t) = a0.eval (.tmp t)) → Q .normal a w) :
    (Code.region id l.toArray draw).wp P Q a0 w0 := by
  simp only [Bool.and_eq_true] at hsp
  have hQ : ∀ (lst : Array Bool) a w, Under F I w0 a0 l.toArray Φ anc sp lst a w → (∀ i, i < l.toArray.size → lst.getD i false = true) → Q .normal a w := by
    intro lst a w hU hall
    refine hend a w hU.defs (hU.tmps.trans hn) hU.touch ?_ (ends_of hU hall l Φ 0 (fun i o h => by simpa using h) (fun i φ h => by simpa using h)) fun t ht => hU.out t fun i o ho hd => ?_
    · have := hU.inv
      rwa [List.countP_eq_length.2 (fun s hs => hall s (by
        have := List.all_eq_true.1 hsp.2 s hs
        simpa using this))] at this
    · have : t ∈ dsts l.toArray := List.mem_filterMap.2 ⟨o, List.mem_of_getElem? (by simpa using ho), hd⟩
      simp at ht
      exact absurd this ht
  have hdl' : ∀ d ∈ dl, ∃ s ∈ sp, ∃ o, l.toArray[s]? = some o ∧ o.dst = some d := by
    intro d hd
    have := List.all_eq_true.1 hdl d hd
    obtain ⟨s, hs, h⟩ := List.any_eq_true.1 this
    cases ho : l[s]? with
    | none => rw [ho] at h; simp at h
    | some o => rw [ho] at h; exact ⟨s, hs, o, by simpa using ho, by simpa using h⟩
  have hany : ∀ w, G.r w0 w → wpAny P .any l.toArray Q l.toArray.size (Array.replicate l.toArray.size false) a0 w := fun w hw =>
    under_any hn hc hsp.1 hdl' hO hQ _ _ _ _ (under_begin h0 w hw) (by
      refine Nat.le_trans List.countP_le_length ?_
      simp)
  cases draw with
  | true => exact wp_region_any hm (hany _ (G.drawn _ _))
  | false =>
    refine wp_region ?_
    -- the text's order is one of the orders
    have key : ∀ (m k : Nat) (lst : Array Bool) a w, k + m = l.length → Under F I w0 a0 l.toArray Φ anc sp lst a w → (∀ i, lst.getD i false = decide (i < k)) → wpOps P l.toArray Q (List.range' k m) a w := by
      intro m
      induction m with
      | zero =>
        intro k lst a w hk hU hl
        simp only [List.range'_zero, wpOps]
        exact hQ lst a w hU fun i hi => by rw [hl]; simp at hi; simpa using (by omega : i < k)
      | succ m ih =>
        intro k lst a w hk hU hl
        rw [List.range'_succ, wpOps_cons]
        have hksz : k < l.toArray.size := by simp; omega
        refine wpOp_mono (fun a' w' hU' => ih (k + 1) _ a' w' (by omega) hU' fun i => ?_) (under_step hn hc hsp.1 hdl' hO hU hksz (by rw [hl]; simp) (fun o ho e he hb => ?_))
        · have hil : k < lst.size := by rw [hU.size]; exact hksz
          by_cases hik : i = k
          · subst hik
            simp [Array.getD_eq_getD_getElem?, hil]
          · simp only [Array.getD_eq_getD_getElem?]
            rw [Array.getElem?_setIfInBounds_ne (fun e => hik e.symm)]
            have := hl i
            simp only [Array.getD_eq_getD_getElem?] at this
            rw [this]
            have : (i < k) ↔ (i < k + 1) := by omega
            simp [this]
        · rw [hl]
          simp only [chk, Bool.and_eq_true] at hc
          have h5 := hc.2
          simp only [List.all_eq_true] at h5
          have := h5 (o, k) (by
            rw [List.mem_iff_getElem?]
            exact ⟨k, by simp [List.getElem?_zipIdx]; simpa using ho⟩)
          simp only [List.all_eq_true, Bool.or_eq_true, Bool.not_eq_true', decide_eq_true_eq] at this
          rcases this e (by simpa using he) with h | h
          · rw [hb] at h; cases h
          · simpa using h
    rw [List.range_eq_range']
    exact key _ 0 _ _ _ (by simp) (under_begin' h0) (fun i => by
      simp only [Array.getD_eq_getD_getElem?, Array.getElem?_replicate]
      split <;> simp)

end

end Go.Proofs.Yticodddigaiipaa
