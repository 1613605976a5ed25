/-
  Maps and rows written in a region whose order is drawn; slices cut.
-/
import Derived.Test.YticodddigaiipaaSatK10
set_option linter.unusedVariables false
set_option linter.unusedSimpArgs false
set_option linter.unusedSectionVars false
namespace Go.Proofs.Yticodddigaiipaa
open Go.RowKit

section
variable {P : Program} {a : Act} {w w1 : World} {dst : Option Tmp} {ty : TypeId} {pos : String} {af : Array Edge} {g : Option (Nat × Bool)} {x y z : Operand}
variable {α β : Type} [DecidableEq α] {ek : α → Value} {ev : β → Value} {b cnt : Nat} {f : α → Option β} {kt et t : TypeId}

/-- What a store into a map has left. -/
def MapPut (w1 : World) (b : Nat) (ek : α → Value) (ev : β → Value) (f : α → Option β) (n : Nat) (w : World) : Prop := ∃ o, Turn b o w1 w ∧ MapF w b ek ev f n
theorem MapPut.ext {n : Nat} {w w' : World} (h : MapPut w1 b ek ev f n w) (k : Ext w w') : MapPut w1 b ek ev f n w' := by
  obtain ⟨o, h1, h2⟩ := h
  exact ⟨o, h1.ext k, h2.keep k⟩
theorem turn_old {o : Obj} {w w' : World} (h : Turn b o w w') (hb : b < w1.heap.size) : Touch (Old w1) w w' := h.touch.mono fun k _ e => by subst e; exact hb

theorem mapu_step (hm : MapF w1 b ek ev f cnt) (K : KeyOk P kt ek) (ht : P.underlying t = some (.map kt et)) (I : Ext w1 w) {xk : α} {yv : β} (hx : a.eval x = .map (some b)) (hy : a.eval y = ek xk) (hz : a.eval z = ev yv) :
    DoesX P ⟨dst, .mapUpdate t x y z, ty, pos, af, g⟩ a w (fun _ w' => (Touch (Old w1) w w' ∧ MapPut w1 b ek ev (fun q => if q = xk then some yv else f q) (if (f xk).isSome then cnt else cnt + 1) w') ∧ True) := by
  obtain ⟨w', o, hr, h1, h2⟩ := (hm.keep I).store K ht xk yv
  exact .skip (ex_mapUpdate hx hy hz hr) ⟨⟨turn_old h1 hm.lt, o, I.turn h1, h2⟩, trivial⟩
theorem mapd_step (hm : MapF w1 b ek ev f cnt) (K : KeyOk P kt ek) (ht : P.underlying t = some (.map kt et)) (I : Ext w1 w) {xk : α} (hx : a.eval x = .map (some b)) (hy : a.eval y = ek xk) :
    DoesX P ⟨dst, .call ⟨.builtin .delete, #[x, y], #[t, kt]⟩, ty, pos, af, g⟩ a w (fun _ w' => (Touch (Old w1) w w' ∧ MapPut w1 b ek ev (fun q => if q = xk then none else f q) (if (f xk).isSome then cnt - 1 else cnt) w') ∧ True) := by
  obtain ⟨w', o, hr, h1, h2⟩ := (hm.keep I).drop (ty := ty) K ht xk
  exact .val (exl_builtin (l := [x, y]) (vs := [.map (some b), ek xk]) (cons_ops hx (cons_ops hy nil_ops)) (fun _ => rfl) hr) ⟨⟨turn_old h1 hm.lt, o, I.turn h1, h2⟩, trivial⟩
theorem ex_mlen {l : List Operand} {n : Nat} {w : World} (ha : l.map a.eval = [.map (some b)]) (hm : MapF w b ek ev f n) {k e : TypeId} (ht : P.underlying t = some (.map k e)) :
    (execOp a.eval ⟨dst, .call ⟨.builtin .len, l.toArray, #[t]⟩, ty, pos, af, g⟩).run P w = .ok (.value (.int .i64 n)) w :=
  exl_builtin ha (fun _ => rfl) (hm.len ht)
theorem ex_look_ok {e : TypeId} {z0 : Value} {w : World} {xk : α} (hm : MapF w b ek ev f cnt) (K : KeyOk P kt ek) (ht : P.underlying t = some (.map kt e)) (hz : (zeroValue e).run P w = .ok z0 w) (hx : a.eval x = .map (some b)) (hy : a.eval y = ek xk) :
    (execOp a.eval ⟨dst, .lookup t x y true, ty, pos, af, g⟩).run P w = .ok (.value (.tuple #[((f xk).map ev).getD z0, .bool (f xk).isSome])) w := ex_lookup hx hy (hm.look_ok K ht hz xk)
end

/-- A row of its own has been written on, and its slice stored back at b. -/
structure AppS (w1 : World) (e k n : Nat) (ob : Option Nat) (xs : List Value) (b : Nat) (T : TypeId) (cells : Value → List Value) (w : World) : Prop where
  ex : ∃ A' c', w.heap[b]? = some (.cells (cells (.slice A' n c')).toArray T (0, 0)) ∧ w.ownsRow 0 e k (.slice A' n c') n xs ∧ ((Value.slice A' n c').ownBlock = ob ∨ ∃ j, (Value.slice A' n c').ownBlock = some j ∧ w1.heap.size ≤ j)
  touch : Touch (fun j => j = b ∨ some j = ob) w1 w
theorem AppS.ext {w1 w w' : World} {e k n : Nat} {ob : Option Nat} {xs : List Value} {b : Nat} {T : TypeId} {cells : Value → List Value} (h : AppS w1 e k n ob xs b T cells w) (hw : Ext w w') : AppS w1 e k n ob xs b T cells w' := by
  obtain ⟨A', c', h1, h2, h3⟩ := h.ex
  exact ⟨⟨A', c', hw.keep h1, own_keep h2 hw, h3⟩, h.touch.trans hw.touch⟩

section
variable {P : Program} {a : Act} {w w1 : World} {dst : Option Tmp} {ty : TypeId} {pos : String} {af : Array Edge} {g : Option (Nat × Bool)} {x y : Operand}
theorem app_step {t e k bytes m n : Nat} {v : Value} {xs news : List Value} (E : ElemOk P t e k bytes) (ho : w1.ownsRow 0 e k v n xs) (I : Ext w1 w) {ad : Addr} {c : Nat} (hx : a.eval x = v) (hy : a.eval y = .slice (some ad) m c) (hl : news.length = m * k)
    (hnews : ∀ j u, news[j]? = some u → w.cell? (ad.add j) = some u) (h1 : (news.all (·.oneCell')) = true) (hb : (n + m) * bytes ≤ 140737488355328) (h63 : n + m ≤ 9223372036854775807) {K : Value → World → Prop}
    (hK : ∀ v' w', App w1 e k (n + m) v.ownBlock (xs ++ news) v' w' → Touch (Old w1) w w' → K v' w') : DoesX P ⟨dst, .call ⟨.builtin .append, #[x, y], #[t, t]⟩, ty, pos, af, g⟩ a w K := by
  obtain ⟨v', w', hr, happ, ht⟩ := run_app (ty := ty) E ho I hl hnews h1 hb h63
  exact .val (exl_builtin (l := [x, y]) (vs := [v, .slice (some ad) m c]) (cons_ops hx (cons_ops hy nil_ops)) (fun _ => rfl) hr) (hK v' w' happ (ht.mono fun j _ hj => own_lt ho hj.symm))

theorem apps_step {t e k n j : Nat} {T : TypeId} {ob : Option Nat} {xs : List Value} {b : Nat} {cs : List Value} (R1 : App w1 e k n ob xs (a.eval y) w) (hb : w1.heap[b]? = some (.cells cs.toArray T (0, 0))) (hne : ob ≠ some b) (hs : (sizeOf t).run P w = .ok 1 w) (hx : a.eval x = .pointer (some ⟨b, j, none⟩)) (hj : j + 1 ≤ cs.length) :
    DoesX P ⟨dst, .store t x y, ty, pos, af, g⟩ a w (fun _ w' => (Touch (Old w1) w w' ∧ AppS w1 e k n ob xs b T (fun v => cs.set j v) w') ∧ True) := by
  obtain ⟨A', c', hv⟩ := own_shape R1.own
  have hbw : w.heap[b]? = some (.cells cs.toArray T (0, 0)) := R1.touch.keep hb (fun e => hne e.symm)
  have hst := run_storeVar (P := P) (v := .slice A' n c') (vs := [.slice A' n c']) (n := 1) hbw hs rfl rfl (by decide) hj rfl
  refine .skip (ex_store hx hv hst) ?_
  have ht := setB_turn (.cells (putCells cs j [.slice A' n c']).toArray T (0, 0)) hbw
  rw [hv] at R1
  have hnb : ∀ i, (Value.slice A' n c').ownBlock = some i → i ≠ b := fun i hi e => by
    subst e
    rcases R1.blk with h | ⟨q, h, hq⟩
    · exact hne (h.symm.trans hi)
    · rw [hi] at h; injection h with h; subst h
      have := lt_of hb; omega
  refine ⟨⟨turn_old ht (lt_of hb), ⟨⟨A', c', ht.here, own_touch R1.own ht.touch (fun i hi => hnb i hi), R1.blk⟩, ?_⟩⟩, trivial⟩
  exact (R1.touch.mono fun i _ h => .inr h).trans (ht.touch.mono fun i _ h => .inl h)

theorem ex_slice_h {t e k : TypeId} {ad : Addr} {n c : Nat} {kh : IntKind} {h : Int} {hop : Operand} (ht : P.underlying t = some (.slice e)) (hs : (sizeOf e).run P w = .ok k w) (hx : a.eval x = .slice (some ad) n c) (hh : a.eval hop = .int kh h) (h0 : 0 ≤ h) (h1 : h ≤ c) :
    (execOp a.eval ⟨dst, .slice t x none (some hop) none, ty, pos, af, g⟩).run P w = .ok (.value (.slice (some ad) h.toNat c)) w := by
  refine ex_slice hx ?_
  have he : P.elem t = e := by simp [Program.elem, ht]
  rw [run_sliceAt_slice (P := P) w t _ _ _ _ (by rw [he]; exact ht)]
  simp only [Option.map_none, Option.map_some, hh]
  rw [run_slice_h (P := P) w (t := t) (a := some ad) (len := n) (cap := c) (by rw [he]; exact ht) kh h h0 h1, he, hs]
  simp [sliced, Addr.add]
end

theorem Touch.via {F G : Nat → Prop} {w0 w w' : World} (h : Touch F w0 w) (k : Touch G w w') (hF : ∀ j, G j → F j ∨ w0.heap.size ≤ j) : Touch F w0 w' :=
  ⟨k.os.trans h.os, k.tape.trans h.tape, k.output.trans h.output, Nat.le_trans h.size k.size, fun j hj hn =>
    (k.block j (Nat.lt_of_lt_of_le hj h.size) fun hf => by
      rcases hF j hf with hf | hf
      · exact hn hf
      · omega).trans (h.block j hj hn)⟩
theorem App.no {w1 w : World} {e k n c : Nat} {ob : Option Nat} {xs : List Value} {v : Value} (h : App w1 e k n ob xs v w) (hc : c < w1.heap.size) (hn : ∀ j, ob = some j → j ≠ c) : ∀ j, v.ownBlock = some j → j ≠ c := fun j hj => by
  rcases h.blk with h | ⟨i, h, hi⟩
  · exact hn j (h.symm.trans hj)
  · rw [hj] at h; injection h with h; omega
theorem App.base {w1 w : World} {e k n B : Nat} {ob : Option Nat} {xs : List Value} {v : Value} (h : App w1 e k n ob xs v w) (hB : B ≤ w1.heap.size) (hn : ∀ j, ob = some j → B ≤ j) : ∀ j, v.ownBlock = some j → B ≤ j := fun j hj => by
  rcases h.blk with h | ⟨i, h, hi⟩
  · exact hn j (h.symm.trans hj)
  · rw [hj] at h; injection h with h; omega
theorem no_new {w : World} {base e k n b : Nat} {v : Value} {xs : List Value} (h : w.ownsRow base e k v n xs) (g : w.heap.size ≤ b) : ∀ j, v.ownBlock = some j → j ≠ b := fun j hj => by have := own_lt h hj; omega
theorem ne_lt {w : World} {c b : Nat} (h : c < w.heap.size) (g : w.heap.size ≤ b) : c ≠ b := by omega
theorem ne_kind {w : World} {b c : Nat} {cs : Array Value} {t : TypeId} {fr : Nat × Nat} {es : Array MapEntry} {k : Nat} (hb : w.heap[b]? = some (.cells cs t fr)) (hc : w.heap[c]? = some (.map es k)) : b ≠ c := fun e => by subst e; rw [hb] at hc; cases hc
theorem ne_type {w : World} {b c : Nat} {cs ds : Array Value} {t u : TypeId} {fr fs : Nat × Nat} (hb : w.heap[b]? = some (.cells cs t fr)) (hc : w.heap[c]? = some (.cells ds u fs)) (hn : t ≠ u) : b ≠ c := fun e => by
  subst e; rw [hb] at hc; injection hc with hc; injection hc with _ h; exact hn h
end Go.Proofs.Yticodddigaiipaa
