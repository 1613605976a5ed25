/-
  Slices that a block of their own holds: append; a slice that is read.
-/
import Derived.Test.YticodddigaiipaaSatK6
import Derived.Laws.AppendOwn
import Derived.Laws.AppendOwnNone
import Derived.Laws.Slices
set_option linter.unusedVariables false
set_option linter.unusedSimpArgs false
namespace Go.Proofs.Yticodddigaiipaa
open Go.RowKit

/-- append onto a row of its own: where the row lies then. -/
theorem run_append {P : Program} (w : World) (t ty e : TypeId) (i : TypeInfo) (z : Value) (size bytes : Nat) (ht : P.underlying t = some (.slice e)) (hi : P.info? e = some i) (hz : i.zero = some z)
    (hsize : i.size = size) (hby : i.bytes = bytes) (hzs : z.cells.size = size) (hsz : 0 < size)
    (v : Value) (n : Nat) (xs : List Value) (hown : w.ownsRow 0 e size v n xs)
    (a : Addr) (m c : Nat) (news : List Value) (hl : news.length = m * size) (hnews : ∀ j u, news[j]? = some u → w.cell? (a.add j) = some u) (h1 : ∀ u ∈ news, u.oneCell' = true)
    (h63 : n + m ≤ maxLen) (hbytes : (n + m) * bytes ≤ 140737488355328) :
    ∃ v' w', (Builtin.append_ #[t, t] ty #[v, .slice (some a) m c]).run P w = .ok v' w' ∧ w'.ownsRow 0 e size v' (n + m) (xs ++ news) ∧ w.grownBy w' v.ownBlock ∧
      (v'.ownBlock = v.ownBlock ∨ v'.ownBlock = some w.heap.size) := by
  by_cases hroom : ∃ g cap, v = .slice (some ⟨g, 0, none⟩) n cap ∧ n + m ≤ cap
  · obtain ⟨g, cap, rfl, hroom⟩ := hroom
    obtain ⟨v', w', hr, ho, hg, _⟩ := run_append_own (P := P) w 0 t ty e i z size bytes ht hi hz hsize hby hzs hsz _ n xs hown a m c news hl hnews h1 h63 hbytes (Nat.zero_le _)
    refine ⟨v', w', hr, ho, hg, .inl ?_⟩
    rcases hown.2 with ⟨h, _⟩ | ⟨g', cap', cur, hv, _, hgg, hnc, hcm, hcs, _⟩
    · cases h
    · injection hv with h2 _ h3
      injection h2 with h2
      injection h2 with h2
      subst h2; subst h3
      have hrr := run_append_room (P := P) w t ty e i ht hi g n cap cur hgg a m c news (by rw [hl, hsize]) hnews h1 hroom (by rw [hl, hcs, hsize, ← Nat.add_mul]; exact Nat.mul_le_mul_right _ hroom)
      rw [hrr] at hr
      injection hr with h4 _
      subst h4
      rfl
  · by_cases hnil : v = .slice none 0 0 ∧ m = 0
    · obtain ⟨rfl, rfl⟩ := hnil
      obtain ⟨v', w', hr, ho, hg, hn⟩ := run_append_own (P := P) w 0 t ty e i z size bytes ht hi hz hsize hby hzs hsz _ n xs hown a 0 c news hl hnews h1 h63 hbytes (Nat.zero_le _)
      exact ⟨v', w', hr, ho, hg, .inl (by rw [hn.2 ⟨rfl, rfl⟩])⟩
    · obtain ⟨v', w', hr, ho, hg, _⟩ := run_append_own (P := P) w 0 t ty e i z size bytes ht hi hz hsize hby hzs hsz _ n xs hown a m c news hl hnews h1 h63 hbytes (Nat.zero_le _)
      refine ⟨v', w', hr, ho, hg, .inr ?_⟩
      subst hsize; subst hby
      rcases hown.2 with ⟨rfl, rfl⟩ | ⟨g, cap, cur, rfl, _, hgg, hnc, hcm, hcs, _⟩
      · have hm : m ≠ 0 := fun e => hnil ⟨rfl, e⟩
        have hrr := run_append_nil (P := P) w t ty e i z ht hi hz a m c news hl hnews (by omega) (by simp only [maxLen] at h63; omega) (by have hb := hbytes; simp only [Nat.zero_add] at hb; omega)
        rw [hrr] at hr
        injection hr with h4 _
        subst h4; rfl
      · have hno : ¬ n + m ≤ cap := fun e => hroom ⟨g, cap, rfl, e⟩
        have hrr := run_append_grow (P := P) w t ty e i z ht hi hz ⟨g, 0, none⟩ n cap xs hown.1 (hown.cells (g := g) rfl) a m c news hl hnews (by omega) (by simp only [maxLen] at h63; omega) (growslice_fits (by omega) hbytes)
        rw [hrr] at hr
        injection hr with h4 _
        subst h4; rfl

/-! ### A slice that is read -/
/-- The slice's value, and the cells of its elements, k to each, in one list. -/
structure Reads (w : World) (v : Value) (k : Nat) (xs : List Value) (n : Nat) : Prop where
  len : xs.length = n * k
  val : (n = 0 ∧ ∃ A c, v = .slice A 0 c) ∨ ∃ b o c, v = .slice (some ⟨b, o, none⟩) n c ∧ ∀ j u, xs[j]? = some u → w.cell? ⟨b, o + j, none⟩ = some u

theorem Reads.own {w : World} {base : Nat} {e : TypeId} {k n : Nat} {v : Value} {xs : List Value} (h : w.ownsRow base e k v n xs) : Reads w v k xs n := by
  refine ⟨h.1, ?_⟩
  rcases h.2 with ⟨rfl, rfl⟩ | ⟨g, cap, cur, rfl, _, hg, hn, hc, hs, ht⟩
  · exact .inl ⟨rfl, _, _, rfl⟩
  · refine .inr ⟨g, 0, cap, rfl, fun j u hu => ?_⟩
    have := h.cells (g := g) rfl j u hu
    rw [addr_add] at this
    exact this

theorem Reads.keep {w w' : World} {v : Value} {k n : Nat} {xs : List Value} (h : Reads w v k xs n) (hw : Ext w w') : Reads w' v k xs n := by
  refine ⟨h.len, h.val.imp id ?_⟩
  rintro ⟨b, o, c, hv, hc⟩
  refine ⟨b, o, c, hv, fun j u hu => ?_⟩
  have h1 := hc j u hu
  exact (Below.cell hw (World.block_lt_of_cell? w _ h1)).trans h1

theorem run_indexAt {P : Program} {w : World} {t e : TypeId} {k : Nat} (ht : P.underlying t = some (.slice e)) (hs : (sizeOf e).run P w = .ok k w) {b o n c : Nat} {kd : IntKind} {i : Int} (h0 : 0 ≤ i) (h1 : i < n) :
    (Instr.indexAt t (.slice (some ⟨b, o, none⟩) n c) (.int kd i)).run P w = .ok (.pointer (some ⟨b, o + i.toNat * k, none⟩)) w := by
  have hh : 0 ≤ i ∧ i < (n : Int) := ⟨h0, h1⟩
  simp [Instr.indexAt, asIntOf, run_underlying ht, hh, hs, addr_add]
end Go.Proofs.Yticodddigaiipaa
