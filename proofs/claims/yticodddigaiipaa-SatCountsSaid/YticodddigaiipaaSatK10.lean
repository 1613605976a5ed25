/-
  append in a walk.
-/
import Derived.Test.YticodddigaiipaaSatK9
set_option linter.unusedVariables false
set_option linter.unusedSimpArgs false
set_option linter.unusedSectionVars false
namespace Go.Proofs.Yticodddigaiipaa
open Go.RowKit

/-- What an append to a row of its own has left: since w1 none has turned but the row's old block (ob). -/
structure App (w1 : World) (e k n : Nat) (ob : Option Nat) (xs : List Value) (v : Value) (w : World) : Prop where
  own : w.ownsRow 0 e k v n xs
  blk : v.ownBlock = ob ∨ ∃ j, v.ownBlock = some j ∧ w1.heap.size ≤ j
  touch : Touch (fun j => some j = ob) w1 w

theorem own_same {w w' : World} {base e k n : Nat} {v : Value} {xs : List Value} (h : w.ownsRow base e k v n xs) (hw : ∀ j, v.ownBlock = some j → w'.heap[j]? = w.heap[j]?) : w'.ownsRow base e k v n xs := by
  refine ⟨h.1, ?_⟩
  rcases h.2 with h | ⟨g, cap, cur, hv, hb, hg, r⟩
  · exact .inl h
  · subst hv
    exact .inr ⟨g, cap, cur, rfl, hb, (hw g rfl).trans hg, r⟩
theorem own_lt {w : World} {base e k n j : Nat} {v : Value} {xs : List Value} (h : w.ownsRow base e k v n xs) (hj : v.ownBlock = some j) : j < w.heap.size := (h.lt j hj).2
theorem own_keep {w w' : World} {base e k n : Nat} {v : Value} {xs : List Value} (h : w.ownsRow base e k v n xs) (hw : Ext w w') : w'.ownsRow base e k v n xs :=
  own_same h fun j hj => hw.block j (own_lt h hj)
theorem own_touch {F : Nat → Prop} {w w' : World} {base e k n : Nat} {v : Value} {xs : List Value} (h : w.ownsRow base e k v n xs) (hw : Touch F w w') (hn : ∀ j, v.ownBlock = some j → ¬ F j) : w'.ownsRow base e k v n xs :=
  own_same h fun j hj => hw.block j (own_lt h hj) (hn j hj)
theorem own_shape {w : World} {base e k n : Nat} {v : Value} {xs : List Value} (h : w.ownsRow base e k v n xs) : ∃ A c, v = .slice A n c := by
  rcases h.2 with ⟨rfl, rfl⟩ | ⟨g, cap, cur, rfl, _⟩
  · exact ⟨_, _, rfl⟩
  · exact ⟨_, _, rfl⟩
theorem own_some {w : World} {base e k n : Nat} {v : Value} {xs : List Value} (h : w.ownsRow base e k v n xs) (hn : 0 < n) : ∃ row c, v = .slice (some ⟨row, 0, none⟩) n c := by
  rcases h.2 with ⟨rfl, rfl⟩ | ⟨g, cap, cur, rfl, _⟩
  · omega
  · exact ⟨_, _, rfl⟩

theorem own_def {w : World} {base e k n : Nat} {v : Value} {xs : List Value} (h : w.ownsRow base e k v n xs) : v ≠ undef := by
  obtain ⟨A, c, rfl⟩ := own_shape h
  intro hv; cases hv
theorem App.ext {w1 w w' : World} {e k n : Nat} {ob : Option Nat} {xs : List Value} {v : Value} (h : App w1 e k n ob xs v w) (hw : Ext w w') : App w1 e k n ob xs v w' := ⟨own_keep h.own hw, h.blk, h.touch.trans hw.touch⟩

/-- What the model asks of an element's type. -/
structure ElemOk (P : Program) (t e k bytes : Nat) : Prop where
  ht : P.underlying t = some (.slice e)
  ex : ∃ i z, P.info? e = some i ∧ i.zero = some z ∧ i.size = k ∧ i.bytes = bytes ∧ z.cells.size = k
  pos : 0 < k

theorem elemOk {P : Program} {t e k bytes : Nat} {z : Value} (ht : P.underlying t = some (.slice e)) (hi : (P.info? e).map (fun i => (i.zero, i.size, i.bytes)) = some (some z, k, bytes)) (hz : z.cells.size = k) (hp : 0 < k) : ElemOk P t e k bytes := by
  refine ⟨ht, ?_, hp⟩
  cases h : P.info? e with
  | none => rw [h] at hi; cases hi
  | some i =>
    rw [h] at hi
    simp only [Option.map_some, Option.some.injEq, Prod.mk.injEq] at hi
    exact ⟨i, z, rfl, hi.1, hi.2.1, hi.2.2, hz⟩

theorem run_app {P : Program} {w1 w : World} {t ty e k bytes : Nat} (E : ElemOk P t e k bytes) {v : Value} {n : Nat} {xs : List Value} (ho : w1.ownsRow 0 e k v n xs) (hI : Ext w1 w) {a : Addr} {m c : Nat} {news : List Value} (hl : news.length = m * k)
    (hnews : ∀ j u, news[j]? = some u → w.cell? (a.add j) = some u) (h1 : (news.all (·.oneCell')) = true) (hn : (n + m) * bytes ≤ 140737488355328) (h63 : n + m ≤ 9223372036854775807) :
    ∃ v' w', (Builtin.append_ #[t, t] ty #[v, .slice (some a) m c]).run P w = .ok v' w' ∧ App w1 e k (n + m) v.ownBlock (xs ++ news) v' w' ∧ Touch (fun j => some j = v.ownBlock) w w' := by
  obtain ⟨i, z, hi, hz, hs, hb, hzs⟩ := E.ex
  obtain ⟨v', w', hr, hown, hg, hblk⟩ := run_append w t ty e i z k bytes E.ht hi hz hs hb hzs E.pos v n xs (own_keep ho hI) a m c news hl hnews (by simpa using h1) (by unfold maxLen; exact h63) hn
  have ht : Touch (fun j => some j = v.ownBlock) w w' := ⟨hg.os, hg.tape, hg.output, hg.size, fun j hj hne => hg.block j hj hne⟩
  refine ⟨v', w', hr, ⟨hown, hblk.imp id fun h => ⟨_, h, hI.size⟩, hI.touch.trans ht⟩, ht⟩

/-- news in a block of their own -/
theorem news_of {w : World} {b : Nat} {news : List Value} {t : TypeId} {fr : Nat × Nat} (h : w.heap[b]? = some (.cells news.toArray t fr)) : ∀ j u, news[j]? = some u → w.cell? ((⟨b, 0, none⟩ : Addr).add j) = some u := by
  intro j u hu
  rw [addr_add, Nat.zero_add]
  exact cell_of h (by simpa using hu)

section
variable {P : Program} {ops : Array Oper} {Q : Exit → Act → World → Prop} {a : Act} {w : World} {rest : List Oper} {n : Nat} {dst : Option Tmp} {ty : TypeId} {pos : String} {af : Array Edge} {x y : Operand} {v : Value}
/-- append in a region that isn't drawn -/
theorem sapp {t e k bytes m : Nat} {ln : Nat} {xs news : List Value} {ad : Addr} {c : Nat} (hn : a.tmps.size = n) (hd : ((dst.map fun d => decide (d < n)).getD true) = true) (E : ElemOk P t e k bytes) (ho : w.ownsRow 0 e k v ln xs) (hx : a.eval x = v) (hy : a.eval y = .slice (some ad) m c)
    (hl : news.length = m * k) (hnews : ∀ j u, news[j]? = some u → w.cell? (ad.add j) = some u) (h1 : (news.all (·.oneCell')) = true) (hb : (ln + m) * bytes ≤ 140737488355328) (h63 : ln + m ≤ 9223372036854775807)
    (next : ∀ A' c' w' a', App w e k (ln + m) v.ownBlock (xs ++ news) (.slice A' (ln + m) c') w' → Put a dst (.slice A' (ln + m) c') a' → a'.tmps.size = n → wpList P ops Q rest a' w') :
    wpList P ops Q (⟨dst, .call ⟨.builtin .append, #[x, y], #[t, t]⟩, ty, pos, af, none⟩ :: rest) a w := by
  obtain ⟨v', w', hr, happ, _⟩ := run_app (ty := ty) E ho (Ext.refl w) hl hnews h1 hb h63
  obtain ⟨A', c', rfl⟩ := own_shape happ.own
  exact seq_val hn hd rfl (exl_builtin (l := [x, y]) (vs := [v, .slice (some ad) m c]) (cons_ops hx (cons_ops hy nil_ops)) (fun _ => rfl) hr) fun a' u => next A' c' w' a' happ u (u.size.trans hn)
theorem smapu {t kt et : TypeId} {z : Operand} {α β : Type} [DecidableEq α] {ek : α → Value} {ev : β → Value} {b cnt : Nat} {f : α → Option β} {xk : α} {yv : β} (hn : a.tmps.size = n) (hd : ((dst.map fun d => decide (d < n)).getD true) = true) (K : KeyOk P kt ek) (ht : P.underlying t = some (.map kt et)) (hm : MapF w b ek ev f cnt)
    (hx : a.eval x = .map (some b)) (hy : a.eval y = ek xk) (hz : a.eval z = ev yv) (next : ∀ o w' a', Turn b o w w' → MapF w' b ek ev (fun q => if q = xk then some yv else f q) (if (f xk).isSome then cnt else cnt + 1) → Put a dst undef a' → a'.tmps.size = n → wpList P ops Q rest a' w') :
    wpList P ops Q (⟨dst, .mapUpdate t x y z, ty, pos, af, none⟩ :: rest) a w := by
  obtain ⟨w', o, hr, h1, h2⟩ := hm.store K ht xk yv
  exact seq_skip hn hd rfl (ex_mapUpdate hx hy hz hr) fun a' u => next o w' a' h1 h2 u (u.size.trans hn)
end
end Go.Proofs.Yticodddigaiipaa
