/-
  A region in the text's own order, an operation at a time; blocks that are known whole, made and written.
-/
import Derived.Test.YticodddigaiipaaSatK3
set_option linter.unusedVariables false
set_option linter.unusedSectionVars false
set_option linter.unusedSimpArgs false
namespace Go.Proofs.Yticodddigaiipaa
open Go.RowKit

/-- The frame behind an operation. -/
structure Put (a : Act) (dst : Option Nat) (v : Value) (a' : Act) : Prop where
  defs : a'.defers = a.defers
  size : a'.tmps.size = a.tmps.size
  here : ∀ d, dst = some d → a'.eval (.tmp d) = v
  past : ∀ t, (dst == some t) = false → a'.eval (.tmp t) = a.eval (.tmp t)

theorem Put.mk' {a : Act} {dst : Option Nat} {v : Value} {n : Nat} (hn : a.tmps.size = n) (hd : ((dst.map fun d => decide (d < n)).getD true) = true) : Put a dst v (a.put dst v) := by
  refine ⟨put_defers .., put_size .., fun d e => ?_, fun t h => eval_put_other (by simpa using h)⟩
  subst e
  exact eval_put_same (by rw [hn]; simpa using hd)

section
variable {P : Program} {ops : Array Oper} {Q : Exit → Act → World → Prop} {a : Act} {w : World} {rest : List Oper} {o : Oper} {v : Value}

theorem seq_begin {l : List Oper} {id : Nat} (h : wpList P l.toArray Q l a w) : (Code.region id l.toArray false).wp P Q a w := wp_region_lit h
theorem seq_end (h : Q .normal a w) : wpList P ops Q [] a w := h

theorem seq_does {n : Nat} (hn : a.tmps.size = n) (hd : ((o.dst.map fun d => decide (d < n)).getD true) = true) {K : Value → World → Prop} (h : Does P ops o a w K)
    (next : ∀ v w' a', K v w' → Put a o.dst v a' → wpList P ops Q rest a' w') : wpList P ops Q (o :: rest) a w := by
  unfold wpList
  unfold Does at h
  split
  · rename_i hw
    rw [if_pos hw] at h
    refine .inl (wp_mono2 (fun a' w' hh => ?_) (fun _ _ _ hh => hh.elim) h)
    obtain ⟨v, rfl, hv⟩ := hh
    exact next v w' _ hv (Put.mk' hn hd)
  · rename_i hw
    rw [if_neg hw] at h
    exact next undef w _ h (Put.mk' hn hd)

/-- A value, memory as it was. -/
theorem seq_pure {n : Nat} (hn : a.tmps.size = n) (hd : ((o.dst.map fun d => decide (d < n)).getD true) = true) (hg : o.guard = none) (h : (execOp a.eval o).run P w = .ok (.value v) w)
    (next : ∀ a', Put a o.dst v a' → wpList P ops Q rest a' w) : wpList P ops Q (o :: rest) a w :=
  seq_does hn hd (K := fun v' w' => v' = v ∧ w' = w) (.plain hg (.val h ⟨rfl, rfl⟩)) fun _ _ a' ⟨e1, e2⟩ hp => by subst e1; subst e2; exact next a' hp
/-- .. under a guard that is so -/
theorem seq_yes {n g d : Nat} {b : Bool} (hn : a.tmps.size = n) (hd : ((o.dst.map fun d => decide (d < n)).getD true) = true) (hg : o.guard = some (g, b)) (hgd : (ops[g]?).bind (·.dst) = some d) (hv : a.eval (.tmp d) = .bool b)
    (h : (execOp a.eval o).run P w = .ok (.value v) w) (next : ∀ a', Put a o.dst v a' → wpList P ops Q rest a' w) : wpList P ops Q (o :: rest) a w :=
  seq_does hn hd (K := fun v' w' => v' = v ∧ w' = w) (.yes hg hgd hv (.val h ⟨rfl, rfl⟩)) fun _ _ a' ⟨e1, e2⟩ hp => by subst e1; subst e2; exact next a' hp
theorem seq_no {n g d : Nat} {b : Bool} (hn : a.tmps.size = n) (hd : ((o.dst.map fun d => decide (d < n)).getD true) = true) (hg : o.guard = some (g, b)) (hgd : (ops[g]?).bind (·.dst) = some d) (hv : a.eval (.tmp d) = .bool (!b))
    (next : ∀ a', Put a o.dst undef a' → wpList P ops Q rest a' w) : wpList P ops Q (o :: rest) a w :=
  seq_does hn hd (K := fun v' w' => v' = undef ∧ w' = w) (.no hg hgd hv ⟨rfl, rfl⟩) fun _ _ a' ⟨e1, e2⟩ hp => by subst e1; subst e2; exact next a' hp

/-- A call. -/
theorem seq_call {n : Nat} (hn : a.tmps.size = n) (hd : ((o.dst.map fun d => decide (d < n)).getD true) = true) (hg : o.guard = none) {f : FuncId} {args : Array Value} (h : (execOp a.eval o).run P w = .ok (.enter f args) w) {R : Ending → World → Prop} (hc : Calls P f args w R)
    (next : ∀ e w', R e w' → ∃ v, e = .returned v ∧ ∀ a', Put a o.dst v a' → wpList P ops Q rest a' w') : wpList P ops Q (o :: rest) a w :=
  seq_does hn hd (K := fun v w' => ∀ a', Put a o.dst v a' → wpList P ops Q rest a' w') (.plain hg (.call h hc next)) fun _ _ a' hk hp => hk a' hp
theorem seq_call_yes {n g d : Nat} {b : Bool} (hn : a.tmps.size = n) (hd : ((o.dst.map fun d => decide (d < n)).getD true) = true) (hg : o.guard = some (g, b)) (hgd : (ops[g]?).bind (·.dst) = some d) (hv : a.eval (.tmp d) = .bool b) {f : FuncId} {args : Array Value} (h : (execOp a.eval o).run P w = .ok (.enter f args) w) {R : Ending → World → Prop} (hc : Calls P f args w R)
    (next : ∀ e w', R e w' → ∃ v, e = .returned v ∧ ∀ a', Put a o.dst v a' → wpList P ops Q rest a' w') : wpList P ops Q (o :: rest) a w :=
  seq_does hn hd (K := fun v w' => ∀ a', Put a o.dst v a' → wpList P ops Q rest a' w') (.yes hg hgd hv (.call h hc next)) fun _ _ a' hk hp => hk a' hp

/-- A new block. -/
theorem seq_new {n : Nat} (hn : a.tmps.size = n) (hd : ((o.dst.map fun d => decide (d < n)).getD true) = true) (hg : o.guard = none) {x : Obj} {mk : Nat → Value} (h : (execOp a.eval o).run P w = .ok (.value (mk w.heap.size)) (w.alloc x))
    (next : ∀ b w' a', Ext w w' → w.heap.size ≤ b → w'.heap[b]? = some x → Put a o.dst (mk b) a' → wpList P ops Q rest a' w') : wpList P ops Q (o :: rest) a w :=
  seq_does hn hd (K := fun v w' => v = mk w.heap.size ∧ w' = w.alloc x) (.plain hg (.val h ⟨rfl, rfl⟩)) fun _ _ a' ⟨e1, e2⟩ hp => by
    subst e1; subst e2; exact next _ _ a' (Ext.alloc w x) (Nat.le_refl _) (heap_alloc w x) hp

/-- Some operation, of whatever effect. -/
theorem seq_val {n : Nat} (hn : a.tmps.size = n) (hd : ((o.dst.map fun d => decide (d < n)).getD true) = true) (hg : o.guard = none) {w' : World} (h : (execOp a.eval o).run P w = .ok (.value v) w')
    (next : ∀ a', Put a o.dst v a' → wpList P ops Q rest a' w') : wpList P ops Q (o :: rest) a w :=
  seq_does hn hd (K := fun v' w'' => v' = v ∧ w'' = w') (.plain hg (.val h ⟨rfl, rfl⟩)) fun _ _ a' ⟨e1, e2⟩ hp => by subst e1; subst e2; exact next a' hp
theorem seq_skip {n : Nat} (hn : a.tmps.size = n) (hd : ((o.dst.map fun d => decide (d < n)).getD true) = true) (hg : o.guard = none) {w' : World} (h : (execOp a.eval o).run P w = .ok .skip w')
    (next : ∀ a', Put a o.dst undef a' → wpList P ops Q rest a' w') : wpList P ops Q (o :: rest) a w :=
  seq_does hn hd (K := fun v' w'' => v' = undef ∧ w'' = w') (.plain hg (.skip h ⟨rfl, rfl⟩)) fun _ _ a' ⟨e1, e2⟩ hp => by subst e1; subst e2; exact next a' hp
end

/-! ### Whole blocks -/

/-- Block b is another one now; of all others none has turned. -/
structure Turn (b : Nat) (o : Obj) (w w' : World) : Prop where
  touch : Touch (fun k => k = b) w w'
  here : w'.heap[b]? = some o

theorem Turn.keep {b : Nat} {o : Obj} {w w' : World} (h : Turn b o w w') {k : Nat} {x : Obj} (hk : w.heap[k]? = some x) (hn : k ≠ b) : w'.heap[k]? = some x := h.touch.keep hk hn
theorem Turn.ext {b : Nat} {o : Obj} {w w' w'' : World} (h : Turn b o w w') (k : Ext w' w'') : Turn b o w w'' := ⟨h.touch.trans k.touch, k.keep h.here⟩
theorem Ext.turn {b : Nat} {o : Obj} {w w' w'' : World} (h : Ext w w') (k : Turn b o w' w'') : Turn b o w w'' :=
  ⟨h.touch.trans k.touch, k.here⟩
theorem Touch.turn {F : Nat → Prop} {b : Nat} {o : Obj} {w0 w w' : World} (h : Touch F w0 w) (t : Turn b o w w') (hb : F b ∨ w0.heap.size ≤ b) : Touch F w0 w' :=
  ⟨t.touch.os.trans h.os, t.touch.tape.trans h.tape, t.touch.output.trans h.output, Nat.le_trans h.size t.touch.size, fun k hk hn =>
    (t.touch.block k (Nat.lt_of_lt_of_le hk h.size) (fun e => by
      subst e
      rcases hb with hb | hb
      · exact hn hb
      · omega)).trans (h.block k hk hn)⟩
theorem lt_of {w : World} {b : Nat} {o : Obj} (h : w.heap[b]? = some o) : b < w.heap.size := (Array.getElem?_eq_some_iff.1 h).1
def setB (w : World) (b : Nat) (o : Obj) : World := { w with heap := w.heap.setIfInBounds b o }
theorem setB_turn {w : World} {b : Nat} {x : Obj} (o : Obj) (h : w.heap[b]? = some x) : Turn b o w (setB w b o) := by
  refine ⟨⟨rfl, rfl, rfl, by simp [setB], fun k _ hn => ?_⟩, ?_⟩
  · show (w.heap.setIfInBounds b o)[k]? = _
    rw [Array.getElem?_setIfInBounds_ne (fun e => hn e.symm)]
  · show (w.heap.setIfInBounds b o)[b]? = _
    simp [lt_of h]

/-- cells written one behind the other -/
def putCells : List Value → Nat → List Value → List Value
  | cs, _, [] => cs
  | cs, j, v :: vs => putCells (cs.set j v) (j + 1) vs
theorem putCells_length : ∀ (vs cs : List Value) (j : Nat), (putCells cs j vs).length = cs.length
  | [], _, _ => rfl
  | v :: vs, cs, j => by rw [putCells, putCells_length vs]; simp

theorem setCell_setB {w : World} {b j : Nat} {cs : List Value} {t : TypeId} {v : Value} (h : w.heap[b]? = some (.cells cs.toArray t (0, 0))) : w.setCell ⟨b, j, none⟩ v = setB w b (.cells (cs.set j v).toArray t (0, 0)) := by
  have hb := lt_of h
  have he : w.heap[b] = .cells cs.toArray t (0, 0) := by
    have := Array.getElem?_eq_getElem hb
    rw [h] at this; injection this with this; exact this.symm
  unfold World.setCell setB
  congr 1
  apply Array.ext
  · simp
  · intro k h1 h2
    simp only [Array.getElem_modify, Array.getElem_setIfInBounds]
    split
    · rename_i hk
      subst hk
      simp [he]
    · rename_i hk
      rw [Array.getElem_setIfInBounds_ne (by simpa using h1) hk]
theorem setB_setB (w : World) (b : Nat) (o o' : Obj) : setB (setB w b o) b o' = setB w b o' := by
  unfold setB; congr 1
  apply Array.ext_getElem?
  intro k
  by_cases hk : b = k
  · subst hk
    by_cases hb : b < w.heap.size
    · simp [hb]
    · rw [Array.getElem?_eq_none (by simp; omega), Array.getElem?_eq_none (by simp; omega)]
  · rw [Array.getElem?_setIfInBounds_ne hk, Array.getElem?_setIfInBounds_ne hk, Array.getElem?_setIfInBounds_ne hk]
theorem setB_at {w : World} {b : Nat} {x : Obj} (o : Obj) (h : w.heap[b]? = some x) : (setB w b o).heap[b]? = some o := (setB_turn o h).here

theorem run_store1 (P : Program) {w : World} {b j : Nat} {cs : List Value} {t : TypeId} {v : Value} (h : w.heap[b]? = some (.cells cs.toArray t (0, 0))) (hj : j < cs.length) (hv : v.oneCell' = true) :
    (store ⟨b, j, none⟩ v).run P w = .ok () (setB w b (.cells (cs.set j v).toArray t (0, 0))) := by
  have hc : w.cell? ⟨b, j, none⟩ = some cs[j] := cell_of h (by simp [hj])
  have hf : w.frozen? ⟨b, j, none⟩ = false := by simp [World.frozen?, h]
  rw [run_store P w _ v _ hv]
  simp only [stored, hc, hf, Bool.false_eq_true, if_false]
  rw [setCell_setB h]

theorem addr_add (b j i : Nat) : ((⟨b, j, none⟩ : Addr).add i) = ⟨b, j + i, none⟩ := by
  unfold Addr.add; split
  · subst_vars; rfl
  · rfl

theorem run_storeCells (P : Program) : ∀ (vs : List Value) {w : World} {b j i : Nat} {cs : List Value} {t : TypeId}, w.heap[b]? = some (.cells cs.toArray t (0, 0)) → j + i + vs.length ≤ cs.length → (vs.all (·.oneCell')) = true → vs ≠ [] →
    (storeCells ⟨b, j, none⟩ vs i).run P w = .ok () (setB w b (.cells (putCells cs (j + i) vs).toArray t (0, 0)))
  | [], _, _, _, _, _, _, _, _, _, hn => absurd rfl hn
  | [v], w, b, j, i, cs, t, h, hj, hv, _ => by
    simp only [List.all_cons, List.all_nil, Bool.and_true] at hv
    simp only [List.length_cons, List.length_nil] at hj
    have := run_store1 P h (by omega : j + i < cs.length) hv
    simp [storeCells, addr_add, this, putCells]
  | v :: u :: vs, w, b, j, i, cs, t, h, hj, hv, _ => by
    simp only [List.all_cons, Bool.and_eq_true] at hv
    simp only [List.length_cons] at hj
    have h1 := run_store1 P h (by omega : j + i < cs.length) hv.1
    have h2 := run_storeCells P (u :: vs) (w := setB w b (.cells (cs.set (j + i) v).toArray t (0, 0))) (b := b) (j := j) (i := i + 1) (setB_at _ h) (by simp; omega) (by simp [hv.2]) (by simp)
    rw [setB_setB] at h2
    rw [storeCells, addr_add, Sem.run_bind, h1, Result.andThen_ok, h2]
    rfl

/-- A variable of a known block is written. -/
theorem run_storeVar {P : Program} {w : World} {b j n : Nat} {cs vs : List Value} {t t' : TypeId} {v : Value} (h : w.heap[b]? = some (.cells cs.toArray t' (0, 0))) (hs : (sizeOf t).run P w = .ok n w) (hv : v.cells.toList = vs) (hn : vs.length = n) (hne : n ≠ 0) (hj : j + n ≤ cs.length) (ho : (vs.all (·.oneCell')) = true) :
    (storeVar t ⟨b, j, none⟩ v).run P w = .ok () (setB w b (.cells (putCells cs j vs).toArray t' (0, 0))) := by
  have hsz : v.cells.size = n := by rw [← hn, ← hv]; simp
  simp only [storeVar, Sem.run_bind, hs, Result.andThen_ok, hsz]
  simp only [ne_eq, not_true_eq_false, if_false, Sem.run_bind, Sem.run_pure, Result.andThen_ok]
  rw [hv]
  exact run_storeCells P vs h (by omega) ho (by intro e; rw [e] at hn; simp at hn; omega)

theorem cells_of {w : World} {b off : Nat} {cs : Array Value} {t : TypeId} {fr : Nat × Nat} {vs : List Value} (h : w.heap[b]? = some (.cells cs t fr)) (hv : (cs.toList.drop off).take vs.length = vs) : ∀ j v, vs[j]? = some v → w.cell? ((⟨b, off, none⟩ : Addr).add j) = some v := by
  intro j v hj
  have hlt : j < vs.length := (List.getElem?_eq_some_iff.1 hj).1
  have : cs[off + j]? = some v := by
    rw [← hv, List.getElem?_take, if_pos hlt, List.getElem?_drop] at hj
    simpa using hj
  rw [addr_add]
  exact cell_of h this

/-! ### Results -/
section
variable {P : Program} {fn : Func} {R : Ending → World → Prop} {a : Act} {w : World} {v : Value}

/-- The values of a function's results. -/
def ResOk (P : Program) (a : Act) (w : World) : List ResultVar → List Value → Prop
  | .tmp t :: rs, v :: vs => a.eval (.tmp t) = v ∧ ResOk P a w rs vs
  | .cell t ty :: rs, v :: vs => (∃ ad, a.eval (.tmp t) = .pointer (some ad) ∧ (loadVar ty ad).run P w = .ok v w) ∧ ResOk P a w rs vs
  | [], [] => True
  | _, _ => False

theorem run_resList (P : Program) (a : Act) (w : World) (f : ResultVar → Sem Value) (hf1 : ∀ t, f (.tmp t) = pure (a.tmps.getD t undef)) (hf2 : ∀ b t, f (.cell b t) = (do loadVar t (← asAddr (a.tmps.getD b undef)))) :
    ∀ (rs : List ResultVar) (vs : List Value), ResOk P a w rs vs → (rs.mapM f).run P w = .ok vs w
  | [], [], _ => rfl
  | .tmp t :: rs, v :: vs, h => by
    have h1 : a.tmps.getD t undef = v := h.1
    have ih := run_resList P a w f hf1 hf2 rs vs h.2
    simp only [List.mapM_cons, hf1, Sem.run_bind, Sem.run_pure, Result.andThen_ok, h1, ih]
  | .cell t ty :: rs, v :: vs, h => by
    obtain ⟨ad, h1, h2⟩ := h.1
    have h1 : a.tmps.getD t undef = .pointer (some ad) := h1
    have ih := run_resList P a w f hf1 hf2 rs vs h.2
    have h3 : (asAddr (.pointer (some ad))).run P w = .ok ad w := rfl
    simp only [List.mapM_cons, hf2, Sem.run_bind, Sem.run_pure, Result.andThen_ok, h1, h2, h3, ih]
  | .tmp _ :: _, [], h => h.elim
  | .cell _ _ :: _, [], h => h.elim
  | [], _ :: _, h => h.elim

theorem run_results {rs : List ResultVar} {vs : List Value} (h : fn.results = rs.toArray) (hr : ResOk P a w rs vs) : (results fn a.tmps).run P w = .ok (if h : vs.toArray.size = 1 then vs.toArray[0] else .tuple vs.toArray) w := by
  unfold results
  simp only [h, Sem.run_bind, List.mapM_toArray, Sem.run_map]
  rw [run_resList P a w _ (fun _ => rfl) (fun _ _ => rfl) rs vs hr]
  rfl

theorem retl {rs : List ResultVar} (h : fn.results = rs.toArray) (hr : ResOk P a w rs [v]) (hd : a.defers = []) (hR : R (.returned v) w) : bodyPost P fn R .ret a w :=
  bodyPost_ret (run_results h hr) hd hR
theorem rett {rs : List ResultVar} {vs : List Value} (h : fn.results = rs.toArray) (hr : ResOk P a w rs vs) (hl : vs.length ≠ 1) (hd : a.defers = []) (hR : R (.returned (.tuple vs.toArray)) w) : bodyPost P fn R .ret a w :=
  bodyPost_ret (by have := run_results h hr; rw [dif_neg (by simpa using hl)] at this; exact this) hd hR
end

theorem run_loadVarA {P : Program} {w : World} {t : TypeId} {ad : Addr} {cs : List Value} (hA : (isAgg t).run P w = .ok true w) (hS : (sizeOf t).run P w = .ok cs.length w) (hc : ∀ j v, cs[j]? = some v → w.cell? (ad.add j) = some v) : (loadVar t ad).run P w = .ok (.agg cs.toArray) w := by
  simp [loadVar, hA, hS, run_loadCells_list w ad cs hc]

/-- A store into a block that is known whole. -/
theorem seq_store {P : Program} {ops : Array Oper} {Q : Exit → Act → World → Prop} {a : Act} {w : World} {rest : List Oper} {n : Nat} {dst : Option Tmp} {ty : TypeId} {pos : String} {af : Array Edge} {x y : Operand} {t t' : TypeId} {b j m : Nat} {cs vs cs' : List Value} {v : Value}
    (hn : a.tmps.size = n) (hd : ((dst.map fun d => decide (d < n)).getD true) = true) (hx : a.eval x = .pointer (some ⟨b, j, none⟩)) (hy : a.eval y = v)
    (h : w.heap[b]? = some (.cells cs.toArray t' (0, 0))) (hs : (sizeOf t).run P w = .ok m w) (hv : v.cells.toList = vs) (hm : vs.length = m) (hne : m ≠ 0) (hj : j + m ≤ cs.length) (ho : (vs.all (·.oneCell')) = true) (hc : putCells cs j vs = cs')
    (next : ∀ w' a', Turn b (.cells cs'.toArray t' (0, 0)) w w' → Put a dst undef a' → wpList P ops Q rest a' w') : wpList P ops Q (⟨dst, .store t x y, ty, pos, af, none⟩ :: rest) a w :=
  seq_skip hn hd rfl (ex_store hx hy (run_storeVar h hs hv hm hne hj ho)) fun a' hp => next _ a' (by rw [hc]; exact setB_turn _ h) hp

theorem wrap_u8 {n : Int} (h : 0 ≤ n ∧ n ≤ 255) : IntKind.u8.wrap n = n := by simp only [IntKind.wrap, IntKind.bits, IntKind.signed]; simp; omega
theorem wrap_u16 {n : Int} (h : 0 ≤ n ∧ n ≤ 65535) : IntKind.u16.wrap n = n := by simp only [IntKind.wrap, IntKind.bits, IntKind.signed]; simp; omega
theorem wrap_u32 {n : Int} (h : 0 ≤ n ∧ n ≤ 4294967295) : IntKind.u32.wrap n = n := by simp only [IntKind.wrap, IntKind.bits, IntKind.signed]; simp; omega
theorem wrap_u64 {n : Int} (h : 0 ≤ n ∧ n ≤ 18446744073709551615) : IntKind.u64.wrap n = n := by simp only [IntKind.wrap, IntKind.bits, IntKind.signed]; simp; omega
theorem wrap_i64 {n : Int} (h : -9223372036854775808 ≤ n ∧ n ≤ 9223372036854775807) : IntKind.i64.wrap n = n := i64_in h

theorem DoesX.tail {P : Program} {a : Act} {w w1 : World} {dst : Option Tmp} {ty : TypeId} {pos : String} {af : Array Edge} {g : Option (Nat × Bool)} {x y : Operand} {t t' : TypeId} {b j m : Nat} {cs vs cs' : List Value} {v : Value}
    (hx : a.eval x = .pointer (some ⟨b, j, none⟩)) (hy : a.eval y = v) (I : Ext w1 w) (h : w1.heap[b]? = some (.cells cs.toArray t' (0, 0))) (hs : (sizeOf t).run P w = .ok m w) (hv : v.cells.toList = vs) (hm : vs.length = m) (hne : m ≠ 0) (hj : j + m ≤ cs.length)
    (ho : (vs.all (·.oneCell')) = true) (hc : putCells cs j vs = cs') : DoesX P ⟨dst, .store t x y, ty, pos, af, g⟩ a w (fun _ w' => (Touch (fun k => k = b) w w' ∧ Turn b (.cells cs'.toArray t' (0, 0)) w1 w') ∧ True) :=
  .skip (ex_store hx hy (run_storeVar (I.keep h) hs hv hm hne hj ho)) ⟨⟨(setB_turn _ (I.keep h)).touch, I.turn (by rw [hc]; exact setB_turn _ (I.keep h))⟩, trivial⟩

section
variable {P : Program} {a : Act} {w : World} {dst : Option Tmp} {ty : TypeId} {pos : String} {af : Array Edge} {g : Option (Nat × Bool)} {x y : Operand} {t yt : TypeId} {p : Option Addr}
theorem ex_ptr_eql_nil (hx : a.eval x = .pointer p) (hy : a.eval y = .pointer none) (h : P.underlying t = some (.pointer (P.pointee t))) : (execOp a.eval ⟨dst, .binOp .eql t x y yt, ty, pos, af, g⟩).run P w = .ok (.value (.bool p.isNone)) w :=
  ex_binOp hx hy (by rw [guard_ptr, run_eql_pointer_nil w t p h])
theorem ex_ptr_neq_nil (hx : a.eval x = .pointer p) (hy : a.eval y = .pointer none) (h : P.underlying t = some (.pointer (P.pointee t))) : (execOp a.eval ⟨dst, .binOp .neq t x y yt, ty, pos, af, g⟩).run P w = .ok (.value (.bool p.isSome)) w :=
  ex_binOp hx hy (by rw [guard_ptr, run_neq_pointer_nil w t p h]; cases p <;> rfl)
end
end Go.Proofs.Yticodddigaiipaa
