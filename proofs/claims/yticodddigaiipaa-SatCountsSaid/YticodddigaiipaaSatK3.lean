/-
  Small words for walks: lists of operands, the end of a body, a loop with a count of its own, cells of whole blocks.
-/
import Derived.Test.YticodddigaiipaaSatK2
import Derived.KernelRfl
set_option linter.unusedVariables false
set_option linter.unusedSectionVars false
set_option linter.unusedSimpArgs false
namespace Go.Proofs.Yticodddigaiipaa
open Go.RowKit

theorem nil_ops {a : Act} : ([] : List Operand).map a.eval = [] := rfl
theorem cons_ops {a : Act} {x : Operand} {l : List Operand} {v : Value} {vs : List Value} (h : a.eval x = v) (hs : l.map a.eval = vs) : (x :: l).map a.eval = v :: vs := by rw [List.map_cons, h, hs]
theorem nil_parts {a : Act} : (([] : List (Nat × Operand)).map fun p => (p.1, a.eval p.2)) = [] := rfl
theorem cons_parts {a : Act} {i : Nat} {x : Operand} {l : List (Nat × Operand)} {v : Value} {vs : List (Nat × Value)} (h : a.eval x = v) (hs : (l.map fun p => (p.1, a.eval p.2)) = vs) :
    (((i, x) :: l).map fun p => (p.1, a.eval p.2)) = (i, v) :: vs := by rw [List.map_cons, h, hs]

section
variable {P : Program} {a : Act} {w w' : World} {dst : Option Tmp} {ty : TypeId} {pos : String} {af : Array Edge} {g : Option (Nat × Bool)} {x : Operand} {v : Value}
theorem exl_call {f : FuncId} {l : List Operand} {vs : List Value} {tys : Array TypeId} {fn : Func} (hf : P.funcs[f]? = some fn) (hb : fn.body.isNone = false) (hn : (fn.name == "runtime.NumGoroutine") = false) (ha : l.map a.eval = vs) :
    (execOp a.eval ⟨dst, .call ⟨.value (.func f), l.toArray, tys⟩, ty, pos, af, g⟩).run P w = .ok (.enter f vs.toArray) w :=
  ex_call hf hb hn (by rw [List.map_toArray, ha])
theorem exl_builtin {b : Builtin} {l : List Operand} {vs : List Value} {tys : Array TypeId} {s : Sem Value} (ha : l.map a.eval = vs) (hs : ∀ cs, builtin b tys ty cs vs.toArray = (do pure (.value (← s)))) (hr : s.run P w = .ok v w') :
    (execOp a.eval ⟨dst, .call ⟨.builtin b, l.toArray, tys⟩, ty, pos, af, g⟩).run P w = .ok (.value v) w' :=
  ex_builtin (by rw [List.map_toArray, ha]) hs hr
theorem exl_build {t : TypeId} {l : List (Nat × Operand)} {vs : List (Nat × Value)} (hp : (l.map fun p => (p.1, a.eval p.2)) = vs) (hr : (Instr.build t vs.toArray).run P w = .ok v w) : (execOp a.eval ⟨dst, .build t l.toArray, ty, pos, af, g⟩).run P w = .ok (.value v) w :=
  ex_build (by rw [List.map_toArray, ← hp]) hr
theorem exl_buildSlice {t : TypeId} {n : Nat} {l : List (Nat × Operand)} {vs : List (Nat × Value)} (hp : (l.map fun p => (p.1, a.eval p.2)) = vs) (hr : (Instr.buildSlice t n vs.toArray).run P w = .ok v w') : (execOp a.eval ⟨dst, .buildSlice t n l.toArray, ty, pos, af, g⟩).run P w = .ok (.value v) w' :=
  ex_buildSlice (by rw [List.map_toArray, ← hp]) hr
theorem ex_min {l : List Operand} {k : IntKind} {m n : Int} {tys : Array TypeId} (ha : l.map a.eval = [.int k m, .int k n]) :
    (execOp a.eval ⟨dst, .call ⟨.builtin .min, l.toArray, tys⟩, ty, pos, af, g⟩).run P w = .ok (.value (.int k (if n < m then n else m))) w :=
  exl_builtin ha (fun _ => rfl) (run_min_int2 w _ _ _ _ _ _)
theorem ex_max {l : List Operand} {k : IntKind} {m n : Int} {tys : Array TypeId} (ha : l.map a.eval = [.int k m, .int k n]) :
    (execOp a.eval ⟨dst, .call ⟨.builtin .max, l.toArray, tys⟩, ty, pos, af, g⟩).run P w = .ok (.value (.int k (if n > m then n else m))) w :=
  exl_builtin ha (fun _ => rfl) (run_max_int2 w _ _ _ _ _ _)
theorem ex_len {l : List Operand} {A : Option Addr} {n c : Nat} {t : TypeId} (ha : l.map a.eval = [.slice A n c]) (ht : P.underlying t = some (.slice (P.elem t))) :
    (execOp a.eval ⟨dst, .call ⟨.builtin .len, l.toArray, #[t]⟩, ty, pos, af, g⟩).run P w = .ok (.value (.int .i64 n)) w :=
  exl_builtin ha (fun _ => rfl) (run_len_slice w _ _ _ _ _ ht)

/-- bits of two numbers, as the model has them -/
def ibits (op : BinOp) (k : IntKind) (m n : Int) : Int :=
  match op with
  | .and => k.wrap ((BitVec.ofInt k.bits m &&& BitVec.ofInt k.bits n).toNat)
  | .or => k.wrap ((BitVec.ofInt k.bits m ||| BitVec.ofInt k.bits n).toNat)
  | .xor => k.wrap ((BitVec.ofInt k.bits m ^^^ BitVec.ofInt k.bits n).toNat)
  | _ => k.wrap ((BitVec.ofInt k.bits m &&& ~~~ BitVec.ofInt k.bits n).toNat)
section ints
variable {t yt : TypeId} {k yk : IntKind} {m n : Int} {y : Operand}
theorem ex_and (hx : a.eval x = .int k m) (hy : a.eval y = .int k n) : (execOp a.eval ⟨dst, .binOp .and t x y yt, ty, pos, af, g⟩).run P w = .ok (.value (.int k (ibits .and k m n))) w :=
  ex_binOp hx hy (by rw [guard_int]; simp [binOp, Op.intBits, ibits])
theorem ex_or (hx : a.eval x = .int k m) (hy : a.eval y = .int k n) : (execOp a.eval ⟨dst, .binOp .or t x y yt, ty, pos, af, g⟩).run P w = .ok (.value (.int k (ibits .or k m n))) w :=
  ex_binOp hx hy (by rw [guard_int]; simp [binOp, Op.intBits, ibits])
theorem ex_xor (hx : a.eval x = .int k m) (hy : a.eval y = .int k n) : (execOp a.eval ⟨dst, .binOp .xor t x y yt, ty, pos, af, g⟩).run P w = .ok (.value (.int k (ibits .xor k m n))) w :=
  ex_binOp hx hy (by rw [guard_int]; simp [binOp, Op.intBits, ibits])
theorem ex_shl (hx : a.eval x = .int k m) (hy : a.eval y = .int yk n) (h0 : 0 ≤ n) : (execOp a.eval ⟨dst, .binOp .shl t x y yt, ty, pos, af, g⟩).run P w = .ok (.value (.int k (k.wrap (m * 2 ^ min n.toNat k.bits)))) w :=
  ex_binOp hx hy (by
    rw [guard_int]
    have : ¬ n < 0 := by omega
    simp [binOp, Op.shift, this])
theorem ex_shr (hx : a.eval x = .int k m) (hy : a.eval y = .int yk n) (h0 : 0 ≤ n) : (execOp a.eval ⟨dst, .binOp .shr t x y yt, ty, pos, af, g⟩).run P w = .ok (.value (.int k (m.fdiv (2 ^ min n.toNat k.bits)))) w :=
  ex_binOp hx hy (by
    rw [guard_int]
    have : ¬ n < 0 := by omega
    simp [binOp, Op.shift, this])
theorem ex_rem (hx : a.eval x = .int k m) (hy : a.eval y = .int k n) (h0 : n ≠ 0) : (execOp a.eval ⟨dst, .binOp .rem t x y yt, ty, pos, af, g⟩).run P w = .ok (.value (.int k (m.tmod n))) w :=
  ex_binOp hx hy (by rw [guard_int]; simp [binOp, Op.intDiv, h0])
/-- A sum that fits. -/
theorem i64_in {n : Int} (h : -9223372036854775808 ≤ n ∧ n ≤ 9223372036854775807) : IntKind.i64.wrap n = n := by rw [IntKind.wrap_i64]; omega
theorem ex_add64 (hx : a.eval x = .int .i64 m) (hy : a.eval y = .int .i64 n) (h : -9223372036854775808 ≤ m + n ∧ m + n ≤ 9223372036854775807) : (execOp a.eval ⟨dst, .binOp .add t x y yt, ty, pos, af, g⟩).run P w = .ok (.value (.int .i64 (m + n))) w := by
  rw [ex_add hx hy, i64_in h]
theorem ex_sub64 (hx : a.eval x = .int .i64 m) (hy : a.eval y = .int .i64 n) (h : -9223372036854775808 ≤ m - n ∧ m - n ≤ 9223372036854775807) : (execOp a.eval ⟨dst, .binOp .sub t x y yt, ty, pos, af, g⟩).run P w = .ok (.value (.int .i64 (m - n))) w := by
  rw [ex_sub hx hy, i64_in h]
end ints
theorem ex_eqlb {t yt : TypeId} {m n : Bool} {y : Operand} (ht : P.underlying t = some .bool) (hx : a.eval x = .bool m) (hy : a.eval y = .bool n) : (execOp a.eval ⟨dst, .binOp .eql t x y yt, ty, pos, af, g⟩).run P w = .ok (.value (.bool (m == n))) w :=
  ex_binOp hx hy (by rw [guard_bool]; exact run_eql_bool w t m n ht)
theorem ex_neqb {t yt : TypeId} {m n : Bool} {y : Operand} (ht : P.underlying t = some .bool) (hx : a.eval x = .bool m) (hy : a.eval y = .bool n) : (execOp a.eval ⟨dst, .binOp .neq t x y yt, ty, pos, af, g⟩).run P w = .ok (.value (.bool (!(m == n)))) w :=
  ex_binOp hx hy (by rw [guard_bool]; exact run_neq_bool w t m n ht)
theorem ex_not {t : TypeId} {b : Bool} (hx : a.eval x = .bool b) : (execOp a.eval ⟨dst, .unOp .not t x, ty, pos, af, g⟩).run P w = .ok (.value (.bool (!b))) w :=
  ex_unOp hx (by simp [Op.unary])
end

/-! ### The end of a body -/
section
variable {P : Program} {fn : Func} {R : Ending → World → Prop} {a : Act} {w : World} {t u z : Tmp} {v v' v'' : Value}
theorem end0 (h : fn.results = #[]) (hd : a.defers = []) (hR : R (.returned (.tuple #[])) w) : bodyPost P fn R .normal a w := bodyPost_end (results_none h _ _ _) hd hR
end

section
variable {K : Act → World → Prop} {Q : Exit → Act → World → Prop} {a : Act} {w : World} {i j : Nat}
theorem then_ret (h : Q .ret a w) : Exit.then K Q .ret a w := h
theorem then_exit (h : Q (.exit i) a w) : Exit.then K Q (.exit i) a w := h
theorem then_norm (h : K a w) : Exit.then K Q .normal a w := h
theorem block_ret (h : Q .ret a w) : Exit.inBlock j Q .ret a w := h
theorem block_norm (h : Q .normal a w) : Exit.inBlock j Q .normal a w := h
theorem block_here (h : Q .normal a w) : Exit.inBlock j Q (.exit j) a w := by simp only [Exit.inBlock, if_true]; exact h
theorem block_past (hn : (i == j) = false) (h : Q (.exit i) a w) : Exit.inBlock j Q (.exit i) a w := by
  simp only [Exit.inBlock]; rw [if_neg (by simpa using hn)]; exact h
end

/-! ### A loop with a count of its own -/
theorem wp_loopg {P : Program} {Q : Exit → Act → World → Prop} {a : Act} {w : World} {c : Code} {σ : Type} (I : σ → Act → World → Prop) (μ : σ → Nat) (s0 : σ) (h0 : I s0 a w)
    (round : ∀ s a w, I s a w → c.wp P (Exit.then (fun a' w' => ∃ s', I s' a' w' ∧ μ s' < μ s) Q) a w) : (Code.loop c).wp P Q a w := by
  intro b k cs
  have key : ∀ n s a w, μ s = n → I s a w →
      ∃ e a' w', Q e a' w' ∧ Arrives P (lone (b.at a (.code c :: .inLoop c :: k)) cs w) b k cs e a' w' := by
    intro n
    induction n using Nat.strongRecOn with
    | _ n ih =>
      intro s a w hn hI
      obtain ⟨e, a₁, w₁, hq, harr⟩ := round s a w hI b (.inLoop c :: k) cs
      cases e with
      | normal =>
        obtain ⟨s', hI₁, hlt⟩ := hq
        obtain ⟨e₂, a₂, w₂, hq₂, harr₂⟩ := ih (μ s') (hn ▸ hlt) s' a₁ w₁ rfl hI₁
        exact ⟨e₂, a₂, w₂, hq₂, .of_steps (Steps.trans harr (.one step_inLoop)) harr₂⟩
      | exit id => exact ⟨_, a₁, w₁, hq, .pass (x := .inLoop c) rfl (fun _ _ => .inl (by simp)) harr⟩
      | goto l => exact ⟨_, a₁, w₁, hq, .pass (x := .inLoop c) rfl (fun _ _ => .inl (by simp)) harr⟩
      | ret => exact ⟨_, a₁, w₁, hq, .pass (x := .inLoop c) rfl (fun _ _ => .inl (by simp)) harr⟩
      | panic ch => exact ⟨_, a₁, w₁, hq, .pass (x := .inLoop c) rfl (fun _ _ => .inl (by simp)) harr⟩
      | outgrown => exact ⟨_, a₁, w₁, hq, .pass (x := .inLoop c) rfl (fun _ _ => .inl (by simp)) harr⟩
  obtain ⟨e, a', w', hq, harr⟩ := key _ s0 a w rfl h0
  exact ⟨e, a', w', hq, .of_steps (.one step_loop) harr⟩

/-- A body is entered. -/
theorem enter {P : Program} {f : FuncId} {fn : Func} {c : Code} {args : Array Value} {w : World} {R : Ending → World → Prop} (n : Nat) (hn : fn.ntmps = n) (hf : P.funcs[f]? = some fn) (hb : fn.body = some c)
    (hs : args.size ≤ n) (h : ∀ a : Act, a.defers = [] → a.tmps.size = n → (∀ i v, args[i]? = some v → a.eval (.tmp i) = v) → c.wp P (bodyPost P fn R) a w) : Calls P f args w R := by
  refine calls_of_wp hf hb (h _ rfl ?_ ?_)
  · simp [hn]; omega
  · intro i v hi
    have hlt : i < args.size := (Array.getElem?_eq_some_iff.1 hi).1
    simp only [Act.eval, Array.getD_eq_getD_getElem?]
    rw [Array.getElem?_append_left hlt, hi]; rfl

/-- A cell of a block that is known whole. -/
theorem cell_of {w : World} {b j : Nat} {cs : Array Value} {t : TypeId} {fr : Nat × Nat} {v : Value} (h : w.heap[b]? = some (.cells cs t fr)) (hv : cs[j]? = some v) : w.cell? ⟨b, j, none⟩ = some v := by
  simp [World.cell?, h, hv]

theorem Ext.alloc (w : World) (o : Obj) : Ext w (w.alloc o) := (Below.refl _ _).alloc (Nat.le_refl _) o
theorem heap_alloc (w : World) (o : Obj) : (w.alloc o).heap[w.heap.size]? = some o := by
  show (w.heap.push o)[w.heap.size]? = _
  simp

end Go.Proofs.Yticodddigaiipaa
