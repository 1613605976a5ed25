/-
  Rows that are made whole, and written in place; a slice of a slice that came in.
-/
import Derived.Test.YticodddigaiipaaSatK18
import Derived.Laws.MakeOwn
set_option linter.unusedVariables false
set_option linter.unusedSectionVars false
set_option linter.unusedSimpArgs false
namespace Go.Proofs.Yticodddigaiipaa
open Go.RowKit

theorem putCells_at : ∀ (vs cs : List Value) (j q : Nat), j + vs.length ≤ cs.length → (putCells cs j vs)[q]? = if j ≤ q ∧ q < j + vs.length then vs[q - j]? else cs[q]?
  | [], cs, j, q, _ => by rw [putCells, if_neg (by simp only [List.length_nil]; omega)]
  | v :: vs, cs, j, q, h => by
    simp only [List.length_cons] at h ⊢
    rw [putCells, putCells_at vs (cs.set j v) (j + 1) q (by simp; omega)]
    by_cases h1 : j + 1 ≤ q ∧ q < j + 1 + vs.length
    · rw [if_pos h1, if_pos (by omega), show q - j = (q - (j + 1)) + 1 by omega]; simp
    · rw [if_neg h1]
      by_cases h2 : q = j
      · subst h2
        rw [if_pos (by omega), List.getElem?_set_self (by omega)]; simp
      · rw [if_neg (by omega), List.getElem?_set_ne (by omega)]
section
variable {α : Type} {enc : α → List Value} {k : Nat}
theorem flat_get (he : ∀ x, (enc x).length = k) (hk : 0 < k) (L : List α) (q : Nat) : (flat enc L)[q]? = (L[q / k]?).bind fun x => (enc x)[q % k]? := by
  cases hx : L[q / k]? with
  | some x =>
    have := flat_at he L (q / k) x hx (q % k) (Nat.mod_lt _ hk)
    rw [Nat.mul_comm, Nat.div_add_mod] at this
    rw [this]; rfl
  | none =>
    have hl : L.length ≤ q / k := by simpa using hx
    have : L.length * k ≤ q := by
      have := Nat.mul_le_mul_right k hl
      exact Nat.le_trans this (Nat.div_mul_le_self q k)
    simp only [Option.bind_none]
    rw [List.getElem?_eq_none_iff, flat_len he]; exact this
theorem flat_set (he : ∀ x, (enc x).length = k) (hk : 0 < k) {L : List α} {i : Nat} {x x' : α} (hx : L[i]? = some x) {j : Nat} {vs : List Value} (hj : j + vs.length ≤ k) (hx' : enc x' = (enc x).take j ++ vs ++ (enc x).drop (j + vs.length)) :
    ∀ cs : List Value, (cs.take (L.length * k) = flat enc L) → L.length * k ≤ cs.length → (putCells cs (i * k + j) vs).take (L.length * k) = flat enc (L.set i x') := by
  intro cs hcs hl
  have hi : i < L.length := (List.getElem?_eq_some_iff.1 hx).1
  have hik : i * k + k ≤ L.length * k := by rw [← Nat.succ_mul]; exact Nat.mul_le_mul_right _ hi
  apply List.ext_getElem?
  intro q
  by_cases hq : q < L.length * k
  · rw [List.getElem?_take_of_lt hq, putCells_at _ _ _ _ (by omega), flat_get he hk, List.getElem?_set]
    have hqd : q / k < L.length := Nat.div_lt_of_lt_mul (by rwa [Nat.mul_comm] at hq)
    have hdm := Nat.div_add_mod q k
    have hmod := Nat.mod_lt q hk
    by_cases hqi : i = q / k
    · rw [if_pos hqi, if_pos hi]
      simp only [Option.bind_some]
      have hqe : q = i * k + q % k := by rw [hqi, Nat.mul_comm]; exact hdm.symm
      have hlx : (enc x).length = k := he x
      by_cases hin : i * k + j ≤ q ∧ q < i * k + j + vs.length
      · rw [if_pos hin, hx', List.getElem?_append_left (by simp [hlx]; omega), List.getElem?_append_right (by simp [hlx]; omega)]
        congr 1; simp [hlx]; omega
      · rw [if_neg hin]
        have e1 : cs[q]? = (enc x)[q % k]? := by
          have : cs[q]? = (flat enc L)[q]? := by rw [← hcs, List.getElem?_take_of_lt hq]
          rw [this, flat_get he hk, ← hqi, hx]; rfl
        rw [e1, hx']
        by_cases hlo : q % k < j
        · rw [List.getElem?_append_left (by simp [hlx]; omega), List.getElem?_append_left (by simp [hlx]; omega), List.getElem?_take_of_lt hlo]
        · rw [List.getElem?_append_right (by simp [hlx]; omega), List.getElem?_drop]
          congr 1; simp [hlx]; omega
    · rw [if_neg hqi]
      have hout : ¬ (i * k + j ≤ q ∧ q < i * k + j + vs.length) := by
        rintro ⟨h1, h2⟩
        apply hqi
        have h3 : i * k ≤ q := by omega
        have h4 : q < i * k + k := by omega
        exact (Nat.div_eq_of_lt_le h3 (by rw [Nat.add_mul, Nat.one_mul]; exact h4)).symm
      rw [if_neg hout]
      have : cs[q]? = (flat enc L)[q]? := by rw [← hcs, List.getElem?_take_of_lt hq]
      rw [this, flat_get he hk]
  · rw [List.getElem?_eq_none (by simp; omega), List.getElem?_eq_none (by rw [flat_len he]; simp; omega)]

/-- An element is written, or some of its cells. -/
theorem own_put {w : World} {e n c row : Nat} {A : Option Addr} {L : List α} (h : w.ownsRow 0 e k (.slice A n c) n (flat enc L)) (hA : A = some ⟨row, 0, none⟩) (he : ∀ x, (enc x).length = k) (hk : 0 < k) {i : Nat} {x x' : α} (hx : L[i]? = some x) (j : Nat) {vs : List Value} (hj : j + vs.length ≤ k)
    (hx' : enc x' = (enc x).take j ++ vs ++ (enc x).drop (j + vs.length)) :
    ∃ cs : List Value, w.heap[row]? = some (.cells cs.toArray e (0, 0)) ∧ i * k + j + vs.length ≤ cs.length ∧ ∀ w', Turn row (.cells (putCells cs (i * k + j) vs).toArray e (0, 0)) w w' → w'.ownsRow 0 e k (.slice A n c) n (flat enc (L.set i x')) := by
  subst hA
  have hl := h.1
  rw [flat_len he] at hl
  have hLn : L.length = n := Nat.eq_of_mul_eq_mul_right hk hl
  have hi : i < L.length := (List.getElem?_eq_some_iff.1 hx).1
  have hik : i * k + k ≤ L.length * k := by rw [← Nat.succ_mul]; exact Nat.mul_le_mul_right _ hi
  rcases h.2 with ⟨h', _⟩ | ⟨g, cap, cur, hv, hb, hg, hnc, hcm, hcs, ht⟩
  · cases h'
  · injection hv with h1 h2 h3
    injection h1 with h1; injection h1 with h1
    subst h1; subst h3
    have hnk : n * k ≤ cur.size := by rw [hcs]; exact Nat.mul_le_mul_right _ hnc
    refine ⟨cur.toList, by simpa using hg, by simp; omega, fun w' t => ⟨by rw [flat_len he]; simp [hLn], .inr ⟨row, c, _, rfl, hb, t.here, hnc, hcm, by simp [putCells_length, hcs], ?_⟩⟩⟩
    have := flat_set he hk hx hj hx' cur.toList (by rw [hLn]; exact ht) (by simp; omega)
    rw [hLn] at this
    simpa using this
end

/-- A new row of zeros. -/
theorem made_flat {α : Type} {enc : α → List Value} {k : Nat} {z0 : α} {zc : Array Value} (hz : zc.toList = enc z0) (hk : (enc z0).length = k) (h0 : 0 < k) : ∀ n, (madeCells zc (n * k)).toList = flat enc (List.replicate n z0) := by
  intro n
  have hsz : zc.size = k := by rw [← hk, ← hz]; simp
  apply List.ext_getElem?
  intro q
  by_cases hq : q < n * k
  · have hd : q / k < n := Nat.div_lt_of_lt_mul (by rwa [Nat.mul_comm] at hq)
    have hm := Nat.mod_lt q h0
    have h1 : (madeCells zc (n * k)).toList[q]? = some (zc[q % zc.size]!) := by simp [madeCells, hq]
    have h2 := flat_at (enc := fun _ : Unit => enc z0) (k := k) (fun _ => hk) (List.replicate n ()) (q / k) () (by simp [hd]) (q % k) hm
    have e : flat (fun _ : Unit => enc z0) (List.replicate n ()) = flat enc (List.replicate n z0) := by
      unfold flat; rw [List.flatMap_replicate, List.flatMap_replicate]
    rw [e, Nat.mul_comm (q / k), Nat.div_add_mod] at h2
    rw [h1, h2, ← hz, hsz]
    have : q % k < zc.size := by omega
    simp [this]
  · rw [List.getElem?_eq_none (by simp [madeCells]; omega), List.getElem?_eq_none]
    unfold flat; rw [List.length_flatMap]; simp [hk]; omega
theorem smake {P : Program} {ops : Array Oper} {Q : Exit → Act → World → Prop} {a : Act} {w : World} {rest : List Oper} {N : Nat} {dst : Option Tmp} {ty : TypeId} {pos : String} {af : Array Edge} {x y : Operand} {t e k bytes m : Nat} {zv : Value} {α : Type} {enc : α → List Value} {z0 : α}
    (hn : a.tmps.size = N) (hd : ((dst.map fun d => decide (d < N)).getD true) = true) (ht : P.underlying t = some (.slice e)) (hi : (P.info? e).map (fun i => (i.zero, i.size, i.bytes)) = some (some zv, k, bytes)) (hz : zv.cells.toList = enc z0) (hk : (enc z0).length = k) (h0 : 0 < k)
    (hx : a.eval x = .int .i64 (m : Int)) (hy : a.eval y = .int .i64 (m : Int)) (hb : (bytes : Int) * m ≤ 281474976710656) (hm : m ≤ 140737488351232)
    (next : ∀ b w' a', Ext w w' → w.heap.size ≤ b → w'.ownsRow 0 e k (.slice (some ⟨b, 0, none⟩) m m) m (flat enc (List.replicate m z0)) → Put a dst (.slice (some ⟨b, 0, none⟩) m m) a' → a'.tmps.size = N → wpList P ops Q rest a' w') : wpList P ops Q (⟨dst, .makeSlice t x y, ty, pos, af, none⟩ :: rest) a w := by
  cases hq : P.info? e with
  | none => rw [hq] at hi; cases hi
  | some i =>
    rw [hq] at hi
    simp only [Option.map_some, Option.some.injEq, Prod.mk.injEq] at hi
    obtain ⟨h1, h2, h3⟩ := hi
    have hr := run_make (P := P) w t e i zv ht hq h1 .i64 .i64 m m (by omega) (Int.le_refl _) (by rw [h3]; exact hb) (by omega)
    rw [Int.toNat_natCast, h2] at hr
    have hfl : ∀ nn, (madeCells zv.cells (nn * k)).toList = flat enc (List.replicate nn z0) := made_flat hz hk h0
    refine seq_does hn hd (K := fun v w' => v = .slice (some ⟨w.heap.size, 0, none⟩) m m ∧ w' = w.alloc (.cells (madeCells zv.cells (m * k)) e)) (.plain rfl (.val (by simp [execOp, hx, hy, hr]) ⟨rfl, rfl⟩)) fun v w' a' ⟨e1, e2⟩ hp => ?_
    subst e1; subst e2
    refine next _ _ a' (Ext.alloc w _) (Nat.le_refl _) ⟨?_, .inr ⟨w.heap.size, m, madeCells zv.cells (m * k), rfl, Nat.zero_le _, heap_alloc w _, Nat.le_refl _, ?_, by simp [madeCells], ?_⟩⟩ hp (hp.size.trans hn)
    · rw [← hfl]; simp [madeCells]
    · simp only [maxLen]; omega
    · rw [← hfl]; exact List.take_of_length_le (by simp [madeCells])

theorem ex_slice_hA {P : Program} {a : Act} {w : World} {dst : Option Tmp} {ty : TypeId} {pos : String} {af : Array Edge} {g : Option (Nat × Bool)} {x : Operand} {t e k : TypeId} {A : Option Addr} {ad : Addr} {n c : Nat} {kh : IntKind} {h : Int} {hop : Operand} (ht : P.underlying t = some (.slice e)) (hs : (sizeOf e).run P w = .ok k w) (hx : a.eval x = .slice A n c) (hA : A = some ad) (hh : a.eval hop = .int kh h) (h0 : 0 ≤ h) (h1 : h ≤ c) :
    (execOp a.eval ⟨dst, .slice t x none (some hop) none, ty, pos, af, g⟩).run P w = .ok (.value (.slice A h.toNat c)) w := by
  subst hA; exact ex_slice_h ht hs hx hh h0 h1
/-- The first of a slice that came in. -/
theorem Reads.take {α : Type} {enc : α → List Value} {w : World} {k n m c : Nat} {A : Option Addr} {L : List α} (h : Reads w (.slice A n c) k (flat enc L) n) (he : ∀ x, (enc x).length = k) (hm : m ≤ n) (hL : L.length = n) : Reads w (.slice A m c) k (flat enc (L.take m)) m := by
  refine ⟨by rw [flat_len he, List.length_take, hL, Nat.min_eq_left hm], ?_⟩
  by_cases hz : m = 0
  · subst hz; exact .inl ⟨rfl, _, _, rfl⟩
  · have e := h.eqA (by omega)
    refine .inr ⟨rowB A, rowO A, c, by rw [← e], fun j u hu => h.cell e j u ?_⟩
    rw [flat_take he] at hu
    have hj := (List.getElem?_eq_some_iff.1 hu).1
    simp only [List.length_take] at hj
    rwa [List.getElem?_take_of_lt (by omega)] at hu
end Go.Proofs.Yticodddigaiipaa
