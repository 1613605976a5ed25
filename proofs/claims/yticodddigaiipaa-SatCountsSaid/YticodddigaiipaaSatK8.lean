/-
  A map's block, read as a function: look up, store, delete, count.
-/
import Derived.Test.YticodddigaiipaaSatK7
import Derived.MapKept
set_option linter.unusedVariables false
set_option linter.unusedSimpArgs false
set_option linter.unusedSectionVars false
namespace Go.Proofs.Yticodddigaiipaa
open Go.RowKit

section
variable {P : Program} {kt : TypeId} {α β : Type} [DecidableEq α] {ek : α → Value} {ev : β → Value}

/-- where a key stands, and what stands there -/
def pos : List (α × β) → α → Nat → Option (Nat × β)
  | [], _, _ => none
  | p :: L, x, i => if p.1 = x then some (i, p.2) else pos L x (i + 1)

def Fits (ek : α → Value) (ev : β → Value) (es : List MapEntry) (L : List (α × β)) : Prop := es.map (fun e => (e.key, e.val)) = L.map fun p => (ek p.1, ev p.2)

/-- What the model asks of a key's type. -/
structure KeyOk (P : Program) (kt : TypeId) (ek : α → Value) : Prop where
  check : ∀ em x w, (Instr.checkKey em 10000 kt (ek x)).run P w = .ok () w
  find : ∀ {β : Type} {ev : β → Value} (x : α) (L : List (α × β)) (es : List MapEntry) (w : World), Fits ek ev es L → (Instr.findKey kt (ek x) es).run P w = .ok ((pos L x 0).map fun q => (q.1, ev q.2)) w
  same : ∀ x, Instr.sameBits 10000 (ek x) (ek x) = true
  inj : ∀ x y, ek x = ek y → x = y

theorem fits_cons {e : MapEntry} {es : List MapEntry} {L : List (α × β)} (h : Fits ek ev (e :: es) L) : ∃ p L', L = p :: L' ∧ e.key = ek p.1 ∧ e.val = ev p.2 ∧ Fits ek ev es L' := by
  cases L with
  | nil => simp [Fits] at h
  | cons p L' =>
    simp only [Fits, List.map_cons, List.cons.injEq, Prod.mk.injEq] at h
    exact ⟨p, L', rfl, h.1.1, h.1.2, h.2⟩
theorem fits_nil {L : List (α × β)} (h : Fits ek ev [] L) : L = [] := by simpa [Fits] using h.symm

theorem find_asking (heq : ∀ x y w, (Op.equal kt (ek x) (ek y)).run P w = .ok (decide (x = y)) w) (x : α) : ∀ (es : List MapEntry) (L : List (α × β)) (i : Nat) (w : World), Fits ek ev es L →
    (Instr.findAsking kt (ek x) es i).run P w = .ok ((pos L x i).map fun q => (q.1, ev q.2)) w
  | [], L, i, w, h => by rw [fits_nil h]; simp [Instr.findAsking, pos]
  | e :: es, L, i, w, h => by
    obtain ⟨p, L', rfl, hk, hv, hr⟩ := fits_cons h
    have ih := find_asking heq x es L' (i + 1) w hr
    by_cases hx : x = p.1
    · simp [Instr.findAsking, hk, heq, hx, pos, hv]
    · have hx' : ¬ p.1 = x := fun e => hx e.symm
      simp [Instr.findAsking, hk, heq, hx, hx', pos, ih]

theorem find_now {d : TypeDesc} (hs : ∀ x y, Instr.sameNow d (ek x) (ek y) = some (decide (x = y))) (x : α) : ∀ (es : List MapEntry) (L : List (α × β)) (i : Nat), Fits ek ev es L →
    Instr.findNow d (ek x) es i = some ((pos L x i).map fun q => (q.1, ev q.2))
  | [], L, i, h => by rw [fits_nil h]; simp [Instr.findNow, pos]
  | e :: es, L, i, h => by
    obtain ⟨p, L', rfl, hk, hv, hr⟩ := fits_cons h
    have ih := find_now hs x es L' (i + 1) hr
    by_cases hx : x = p.1
    · simp [Instr.findNow, hk, hs, hx, pos, hv]
    · have hx' : ¬ p.1 = x := fun e => hx e.symm
      simp [Instr.findNow, hk, hs, hx, hx', pos, ih]

/-- Keys that are numbers. -/
theorem keyOk_int {k : IntKind} (ht : P.underlying kt = some (.int k)) : KeyOk P kt (fun n : Int => .int k n) where
  check em x w := by
    have : ∀ m, (Instr.checkKey em (m + 1) kt (.int k x)).run P w = .ok () w := fun m => by simp [Instr.checkKey, run_underlying ht]
    exact this 9999
  find x L es w h := by
    have := find_now (d := .int k) (ek := fun n : Int => Value.int k n) (fun x y => by simp [Instr.sameNow]; exact Bool.beq_eq_decide_eq x y) x es L 0 h
    simp [Instr.findKey, run_underlying ht, this]
  same x := by
    have : ∀ m, Instr.sameBits m (.int k x) (.int k x) = true := fun m => by cases m <;> simp [Instr.sameBits]
    exact this _
  inj x y h := by injection h

/-- Keys that are structs or arrays, whose equality is known. -/
theorem keyOk_agg {d : TypeDesc} (ht : P.underlying kt = some d) (hs : ∀ x y, Instr.sameNow d (ek x) (ek y) = none) (hc : ∀ em x w, (Instr.checkKey em 10000 kt (ek x)).run P w = .ok () w) (heq : ∀ x y w, (Op.equal kt (ek x) (ek y)).run P w = .ok (decide (x = y)) w)
    (hb : ∀ x, Instr.sameBits 10000 (ek x) (ek x) = true) (hi : ∀ x y, ek x = ek y → x = y) : KeyOk P kt ek where
  check := hc
  find x L es w h := by
    have hask := find_asking heq x es L 0 w h
    cases es with
    | nil => rw [fits_nil h]; simp [Instr.findKey, run_underlying ht, Instr.findNow, pos]
    | cons e es =>
      obtain ⟨p, L', rfl, hk, hv, hr⟩ := fits_cons h
      simp [Instr.findKey, run_underlying ht, Instr.findNow, hk, hs]
      exact hask
  same := hb
  inj := hi

/-- Block b is a map of n entries that reads as the function f. -/
structure MapF (w : World) (b : Nat) (ek : α → Value) (ev : β → Value) (f : α → Option β) (n : Nat) : Prop where
  ex : ∃ es clock L, w.heap[b]? = some (.map es clock) ∧ Fits ek ev es.toList L ∧ (L.map (·.1)).Nodup ∧ L.length = n ∧ ∀ x, L.lookup x = f x

theorem pos_lookup : ∀ (L : List (α × β)) (x : α) (i : Nat), (pos L x i).map (·.2) = L.lookup x
  | [], _, _ => rfl
  | p :: L, x, i => by
    simp only [pos, List.lookup]
    by_cases h : p.1 = x
    · subst h; simp
    · have h' : (x == p.1) = false := by simpa using fun e : x = p.1 => h e.symm
      rw [if_neg h, h']
      exact pos_lookup L x (i + 1)
theorem pos_lt : ∀ (L : List (α × β)) (x : α) (i : Nat) (j : Nat) (y : β), pos L x i = some (j, y) → ∃ k, j = i + k ∧ L[k]? = some (x, y)
  | [], _, _, _, _, h => by simp [pos] at h
  | p :: L, x, i, j, y, h => by
    simp only [pos] at h
    by_cases hp : p.1 = x
    · rw [if_pos hp] at h
      injection h with h; injection h with h1 h2
      exact ⟨0, h1.symm, by simp; exact Prod.ext hp h2⟩
    · rw [if_neg hp] at h
      obtain ⟨k, rfl, hk⟩ := pos_lt L x (i + 1) j y h
      exact ⟨k + 1, by omega, by simpa using hk⟩

theorem lookup_none_iff : ∀ (L : List (α × β)) (x : α), L.lookup x = none ↔ x ∉ L.map (·.1)
  | [], _ => by simp
  | p :: L, x => by
    simp only [List.lookup, List.map_cons, List.mem_cons]
    by_cases h : x = p.1
    · subst h; simp
    · have h' : (x == p.1) = false := by simpa using h
      rw [h', lookup_none_iff L x]
      simp [h]

theorem lookup_set : ∀ (L : List (α × β)) (x : α) (y : β) (k : Nat) (y0 : β), L[k]? = some (x, y0) → (L.map (·.1)).Nodup → ∀ z, (L.set k (x, y)).lookup z = if z = x then some y else L.lookup z
  | [], _, _, _, _, h, _, _ => by simp at h
  | p :: L, x, y, 0, y0, h, hn, z => by
    simp at h; subst h
    simp only [List.set_cons_zero, List.lookup]
    by_cases hz : z = x
    · subst hz; simp
    · have h' : (z == x) = false := by simpa using hz
      rw [h', if_neg hz]
  | p :: L, x, y, k + 1, y0, h, hn, z => by
    have hk : L[k]? = some (x, y0) := by simpa using h
    have hn' : (L.map (·.1)).Nodup := by simp only [List.map_cons, List.nodup_cons] at hn; exact hn.2
    have ih := lookup_set L x y k y0 hk hn' z
    simp only [List.set_cons_succ, List.lookup]
    have hpx : p.1 ≠ x := by
      simp only [List.map_cons, List.nodup_cons] at hn
      intro e
      exact hn.1 (e ▸ List.mem_map.2 ⟨(x, y0), List.mem_of_getElem? hk, rfl⟩)
    by_cases hz : z = p.1
    · subst hz; simp [hpx]
    · have h' : (z == p.1) = false := by simpa using hz
      rw [h', ih]

theorem lookup_erase : ∀ (L : List (α × β)) (x : α) (k : Nat) (y0 : β), L[k]? = some (x, y0) → (L.map (·.1)).Nodup → ∀ z, (L.eraseIdx k).lookup z = if z = x then none else L.lookup z
  | [], _, _, _, h, _, _ => by simp at h
  | p :: L, x, 0, y0, h, hn, z => by
    simp at h; subst h
    simp only [List.map_cons, List.nodup_cons] at hn
    simp only [List.eraseIdx_cons_zero, List.lookup]
    by_cases hz : z = x
    · subst hz; rw [if_pos rfl, lookup_none_iff]; exact hn.1
    · have h' : (z == x) = false := by simpa using hz
      rw [h', if_neg hz]
  | p :: L, x, k + 1, y0, h, hn, z => by
    have hk : L[k]? = some (x, y0) := by simpa using h
    simp only [List.map_cons, List.nodup_cons] at hn
    have ih := lookup_erase L x k y0 hk hn.2 z
    simp only [List.eraseIdx_cons_succ, List.lookup]
    have hpx : p.1 ≠ x := fun e => hn.1 (e ▸ List.mem_map.2 ⟨(x, y0), List.mem_of_getElem? hk, rfl⟩)
    by_cases hz : z = p.1
    · subst hz; simp [hpx]
    · have h' : (z == p.1) = false := by simpa using hz
      rw [h', ih]

variable {w : World} {b n : Nat} {f : α → Option β}

theorem run_getObj_map {es : Array MapEntry} {c : Nat} (h : w.heap[b]? = some (.map es c)) : (getObj b).run P w = .ok (.map es c) w := MapKept.run_getObj_map h

theorem MapF.keep {w' : World} (h : MapF w b ek ev f n) (hw : Ext w w') : MapF w' b ek ev f n := by
  obtain ⟨es, c, L, hb, r⟩ := h.ex
  exact ⟨es, c, L, hw.keep hb, r⟩
theorem MapF.lt (h : MapF w b ek ev f n) : b < w.heap.size := by
  obtain ⟨es, c, L, hb, r⟩ := h.ex
  exact lt_of hb
theorem MapF.same {w' : World} (h : MapF w b ek ev f n) (hw : w'.heap[b]? = w.heap[b]?) : MapF w' b ek ev f n := by
  obtain ⟨es, c, L, hb, r⟩ := h.ex
  exact ⟨es, c, L, hw.trans hb, r⟩
theorem MapF.block (h : MapF w b ek ev f n) : ∃ es c, w.heap[b]? = some (.map es c) := by
  obtain ⟨es, c, L, hb, r⟩ := h.ex
  exact ⟨es, c, hb⟩
theorem MapF.made {w' : World} (h : w'.heap[b]? = some (.map #[] 0)) : MapF w' b ek ev (fun _ => none) 0 :=
  ⟨#[], 0, [], h, rfl, by simp, rfl, fun _ => rfl⟩

theorem MapF.look_ok {t e : TypeId} (h : MapF w b ek ev f n) (K : KeyOk P kt ek) (ht : P.underlying t = some (.map kt e)) {z : Value} (hz : (zeroValue e).run P w = .ok z w) (x : α) :
    (Instr.lookup t (.map (some b)) (ek x) true).run P w = .ok (.tuple #[((f x).map ev).getD z, .bool (f x).isSome]) w := by
  obtain ⟨es, c, L, hb, hf, hn, hl, hx⟩ := h.ex
  have hfind := K.find x L es.toList w hf
  have hp := pos_lookup L x 0
  rw [hx] at hp
  cases hq : pos L x 0 with
  | none => rw [hq] at hfind hp; simp only [Option.map_none] at hp hfind; rw [← hp]; simp [Instr.lookup, run_underlying ht, run_getObj_map hb, K.check, hfind, hz]
  | some q => rw [hq] at hfind hp; simp only [Option.map_some] at hp hfind; rw [← hp]; simp [Instr.lookup, run_underlying ht, run_getObj_map hb, K.check, hfind]
theorem run_setObj_map {es : Array MapEntry} {c : Nat} (h : w.heap[b]? = some (.map es c)) (o : Obj) : (setObj b o).run P w = .ok () (setB w b o) := by
  simp [setObj, Sem.run, h, setB]

theorem fits_set {es : Array MapEntry} {L : List (α × β)} (hf : Fits ek ev es.toList L) {k : Nat} {x : α} {y : β} (g : MapEntry → MapEntry) (hg : ∀ e, es[k]? = some e → (g e).key = ek x ∧ (g e).val = ev y) (hk : k < es.size) :
    Fits ek ev (es.modify k g).toList (L.set k (x, y)) := by
  unfold Fits at *
  apply List.ext_getElem?
  intro j
  have hj := congrArg (fun l => l[j]?) hf
  simp only [List.getElem?_map, Array.getElem?_toList, Array.getElem?_modify, List.getElem?_set] at hj ⊢
  by_cases hkj : k = j
  · subst hkj
    have hL : k < L.length := by
      have := congrArg List.length hf
      simp only [List.length_map, Array.length_toList] at this
      omega
    have := hg es[k] (by simp [hk])
    simp [hk, hL, this.1, this.2]
  · simp [hkj, hj]

theorem keys_set {L : List (α × β)} {k : Nat} {x : α} {y y0 : β} (h : L[k]? = some (x, y0)) : (L.set k (x, y)).map (·.1) = L.map (·.1) := by
  apply List.ext_getElem?
  intro j
  simp only [List.getElem?_map, List.getElem?_set]
  by_cases hj : k = j
  · subst hj
    have hl : k < L.length := (List.getElem?_eq_some_iff.1 h).1
    simp [hl]
    rw [List.getElem?_eq_some_iff] at h
    obtain ⟨_, h⟩ := h
    rw [h]
  · simp [hj]

/-- m[x] = y -/
theorem MapF.store {t e : TypeId} (h : MapF w b ek ev f n) (K : KeyOk P kt ek) (ht : P.underlying t = some (.map kt e)) (x : α) (y : β) :
    ∃ w' o, (Instr.mapUpdate t (.map (some b)) (ek x) (ev y)).run P w = .ok () w' ∧ Turn b o w w' ∧ MapF w' b ek ev (fun z => if z = x then some y else f z) (if (f x).isSome then n else n + 1) := by
  obtain ⟨es, c, L, hb, hf, hn, hl, hx⟩ := h.ex
  have hfind := K.find x L es.toList w hf
  have hp := pos_lookup L x 0
  rw [hx] at hp
  have hlen : es.size = L.length := by have := congrArg List.length hf; simpa using this
  cases hq : pos L x 0 with
  | none =>
    rw [hq] at hfind hp
    simp only [Option.map_none] at hp hfind
    have hnot : x ∉ L.map (·.1) := by rw [← lookup_none_iff, hx, ← hp]
    refine ⟨_, .map (es.push { key := ek x, val := ev y, born := c }) (c + 1), ?_, setB_turn _ hb, ⟨_, _, L ++ [(x, y)], setB_at _ hb, ?_, ?_, ?_, fun z => ?_⟩⟩
    · simp [Instr.mapUpdate, run_underlying ht, run_getObj_map hb, K.check, hfind, run_setObj_map hb]
    · unfold Fits at *
      simp [hf]
    · rw [List.map_append, List.nodup_append]
      refine ⟨hn, by simp, fun a ha b hb' => ?_⟩
      simp only [List.map_cons, List.map_nil, List.mem_singleton] at hb'
      subst hb'
      exact fun e => hnot (e ▸ ha)
    · simp [hl, ← hp]
    · rw [List.lookup_append]
      by_cases hz : z = x
      · subst hz; rw [hx, ← hp]; simp [List.lookup]
      · have h' : (z == x) = false := by simpa using hz
        rw [hx]
        simp [List.lookup, h', hz]
  | some q =>
    obtain ⟨j, y0⟩ := q
    rw [hq] at hfind hp
    simp only [Option.map_some] at hp hfind
    obtain ⟨k, hk, hLk⟩ := pos_lt L x 0 j y0 hq
    rw [Nat.zero_add] at hk; subst hk
    have hjs : j < es.size := by rw [hlen]; exact (List.getElem?_eq_some_iff.1 hLk).1
    have hkey : ((es[j]?).map (·.key)).getD (ek x) = ek x := by
      have := congrArg (fun l => l[j]?) hf
      simp only [List.getElem?_map, Array.getElem?_toList, hLk, Option.map_some] at this
      cases he : es[j]? with
      | none => rfl
      | some e => rw [he] at this; simp at this; simp [this.1]
    refine ⟨_, .map (es.modify j fun e => { e with key := ek x, val := ev y }) c, ?_, setB_turn _ hb, ⟨_, _, L.set j (x, y), setB_at _ hb, fits_set hf _ (fun e _ => ⟨rfl, rfl⟩) hjs, ?_, ?_, fun z => ?_⟩⟩
    · simp [Instr.mapUpdate, run_underlying ht, run_getObj_map hb, K.check, hfind, hkey, Instr.keyThatStays, K.same, run_setObj_map hb]
    · rw [keys_set hLk]; exact hn
    · simp [hl, ← hp]
    · rw [lookup_set L x y j y0 hLk hn, hx]

theorem map_erase {γ δ : Type} (g : γ → δ) : ∀ (l : List γ) (j : Nat), (l.eraseIdx j).map g = (l.map g).eraseIdx j
  | [], _ => rfl
  | a :: l, 0 => rfl
  | a :: l, j + 1 => by simp [map_erase g l j]

/-- delete(m, x) -/
theorem MapF.drop {t e ty : TypeId} (h : MapF w b ek ev f n) (K : KeyOk P kt ek) (ht : P.underlying t = some (.map kt e)) (x : α) :
    ∃ w' o, (Builtin.delete_ #[t, kt] ty #[.map (some b), ek x]).run P w = .ok (.tuple #[]) w' ∧ Turn b o w w' ∧ MapF w' b ek ev (fun z => if z = x then none else f z) (if (f x).isSome then n - 1 else n) := by
  obtain ⟨es, c, L, hb, hf, hn, hl, hx⟩ := h.ex
  have hfind := K.find x L es.toList w hf
  have hp := pos_lookup L x 0
  rw [hx] at hp
  have hlen : es.size = L.length := by have := congrArg List.length hf; simpa using this
  cases hq : pos L x 0 with
  | none =>
    rw [hq] at hfind hp
    simp only [Option.map_none] at hp hfind
    refine ⟨_, .map es c, ?_, setB_turn _ hb, ⟨es, c, L, setB_at _ hb, hf, hn, ?_, fun z => ?_⟩⟩
    · simp [Builtin.delete_, run_underlying ht, run_getObj_map hb, K.check, hfind, run_setObj_map hb]
    · simp [hl, ← hp]
    · rw [hx]
      by_cases hz : z = x
      · subst hz; simp [← hp]
      · simp [hz]
  | some q =>
    obtain ⟨j, y0⟩ := q
    rw [hq] at hfind hp
    simp only [Option.map_some] at hp hfind
    obtain ⟨k, hk, hLk⟩ := pos_lt L x 0 j y0 hq
    rw [Nat.zero_add] at hk; subst hk
    have hjs : j < es.size := by rw [hlen]; exact (List.getElem?_eq_some_iff.1 hLk).1
    refine ⟨_, .map (es.eraseIdxIfInBounds j) c, ?_, setB_turn _ hb, ⟨_, _, L.eraseIdx j, setB_at _ hb, ?_, ?_, ?_, fun z => ?_⟩⟩
    · simp [Builtin.delete_, run_underlying ht, run_getObj_map hb, K.check, hfind, run_setObj_map hb]
    · unfold Fits at *
      have : (es.eraseIdxIfInBounds j).toList = es.toList.eraseIdx j := by
        simp [Array.eraseIdxIfInBounds, hjs]
      rw [this, map_erase, hf, map_erase]
    · rw [map_erase]; exact hn.sublist (List.eraseIdx_sublist _ _)
    · have hj : j < L.length := by omega
      rw [List.length_eraseIdx, if_pos hj, hl]
      simp [← hp]
    · rw [lookup_erase L x j y0 hLk hn, hx]

theorem MapF.len {t k e ty : TypeId} (h : MapF w b ek ev f n) (ht : P.underlying t = some (.map k e)) : (Builtin.len_ #[t] ty #[.map (some b)]).run P w = .ok (.int .i64 n) w := by
  obtain ⟨es, c, L, hb, hf, hn, hl, hx⟩ := h.ex
  have hlen : es.size = L.length := by have := congrArg List.length hf; simpa using this
  simp [Builtin.len_, run_underlying ht, run_getObj_map hb, hlen, hl]
  rfl
end
end Go.Proofs.Yticodddigaiipaa
