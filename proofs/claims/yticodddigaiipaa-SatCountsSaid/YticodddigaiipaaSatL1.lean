/-
  The arena as a list of nodes: what a node means, and what making, joining and cutting do. No program in sight.
-/
import Derived.Test.YticodddigaiipaaSatK12
set_option linter.unusedVariables false
set_option linter.unusedSimpArgs false
set_option linter.unusedSectionVars false
namespace Go.Proofs.Yticodddigaiipaa

abbrev N3 := Int × Int × Int
def n0 : N3 := (104, 0, 0)
abbrev nd (A : List N3) (i : Int) : N3 := at_ A n0 i
abbrev lev (A : List N3) (i : Int) : Int := (nd A i).1
abbrev Okn (A : List N3) (i : Int) : Prop := 0 ≤ i ∧ i < A.length
/-- which node has these parts -/
def ixOf (A : List N3) (x : N3) : Option Int := ((A.drop 2).findIdx? (fun y => decide (y = x))).map fun i : Nat => (i : Int) + 2

/-- what node i tells of the bits v -/
def denN (A : List N3) (v : Int → Bool) : Nat → Int → Bool
  | 0, _ => false
  | m + 1, i => if i = 0 then false else if i = 1 then true else denN A v m (if v (nd A i).1 then (nd A i).2.2 else (nd A i).2.1)
def den (A : List N3) (v : Int → Bool) (i : Int) : Bool := denN A v (i.toNat + 1) i

structure Wf (A : List N3) : Prop where
  len : 2 ≤ A.length
  lo : nd A 0 = n0
  hi : nd A 1 = n0
  node : ∀ i : Int, 2 ≤ i → i < A.length → 0 ≤ (nd A i).1 ∧ (nd A i).1 < 104 ∧ 0 ≤ (nd A i).2.1 ∧ (nd A i).2.1 < i ∧ 0 ≤ (nd A i).2.2 ∧ (nd A i).2.2 < i ∧ (nd A i).2.1 ≠ (nd A i).2.2 ∧ (nd A i).1 < lev A (nd A i).2.1 ∧ (nd A i).1 < lev A (nd A i).2.2
  nodup : (A.drop 2).Nodup

theorem nd_pre {A B : List N3} (h : A <+: B) {i : Int} (hi : Okn A i) : nd B i = nd A i := by
  obtain ⟨C, rfl⟩ := h
  have : i.toNat < A.length := by omega
  simp [nd, at_, List.getElem?_append_left this]
theorem ok_pre {A B : List N3} (h : A <+: B) {i : Int} (hi : Okn A i) : Okn B i := by have := h.length_le; unfold Okn at *; omega
theorem denN_more {A : List N3} (h : Wf A) (v : Int → Bool) : ∀ (m : Nat) (i : Int), 0 ≤ i → i < A.length → i < m → denN A v m i = denN A v (i.toNat + 1) i := by
  intro m
  induction m using Nat.strongRecOn with
  | _ m ih =>
    intro i h0 h1 hm
    cases m with
    | zero => omega
    | succ m =>
      simp only [denN]
      split
      · rfl
      · split
        · rfl
        · have n := h.node i (by omega) h1
          have hc : ∀ c : Int, 0 ≤ c → c < i → denN A v m c = denN A v i.toNat c := by
            intro c h0 hc
            rw [ih m (by omega) c h0 (by omega) (by omega)]
            by_cases hq : i.toNat < m + 1
            · exact (ih i.toNat (by omega) c h0 (by omega) (by omega)).symm
            · omega
          split
          · exact hc _ n.2.2.2.2.1 n.2.2.2.2.2.1
          · exact hc _ n.2.2.1 n.2.2.2.1
theorem den_zero (A : List N3) (v : Int → Bool) : den A v 0 = false := rfl
theorem den_one (A : List N3) (v : Int → Bool) : den A v 1 = true := rfl
theorem den_step {A : List N3} (h : Wf A) (v : Int → Bool) {i : Int} (h2 : 2 ≤ i) (h1 : i < A.length) : den A v i = if v (nd A i).1 then den A v (nd A i).2.2 else den A v (nd A i).2.1 := by
  have n := h.node i h2 h1
  rw [show den A v i = denN A v (i.toNat + 1) i from rfl, denN, if_neg (by omega), if_neg (by omega)]
  have hc : ∀ c : Int, 0 ≤ c → c < i → denN A v i.toNat c = den A v c := fun c h0 hc => denN_more h v _ c h0 (by omega) (by omega)
  split
  · exact hc _ n.2.2.2.2.1 n.2.2.2.2.2.1
  · exact hc _ n.2.2.1 n.2.2.2.1
theorem den_pre {A B : List N3} (h : A <+: B) (hA : Wf A) (hB : Wf B) (v : Int → Bool) : ∀ i : Int, Okn A i → den B v i = den A v i := by
  have key : ∀ n : Nat, ∀ i : Int, i.toNat = n → Okn A i → den B v i = den A v i := by
    intro n
    induction n using Nat.strongRecOn with
    | _ n ih =>
      intro i hn hi
      by_cases h2 : 2 ≤ i
      · have e := nd_pre h hi
        have nn := hA.node i h2 hi.2
        rw [den_step hA v h2 hi.2, den_step hB v h2 (ok_pre h hi).2, e, ih _ (by omega) _ rfl ⟨nn.2.2.1, by omega⟩, ih _ (by omega) _ rfl ⟨nn.2.2.2.2.1, by omega⟩]
      · have : i = 0 ∨ i = 1 := by unfold Okn at hi; omega
        rcases this with rfl | rfl <;> rfl
  exact fun i hi => key _ i rfl hi

theorem lev_le {A : List N3} (h : Wf A) {i : Int} (hi : Okn A i) : 0 ≤ lev A i ∧ lev A i ≤ 104 ∧ (lev A i = 104 ↔ i < 2) := by
  by_cases h2 : 2 ≤ i
  · have := h.node i h2 hi.2
    exact ⟨this.1, by simp only [lev]; omega, by simp only [lev]; omega⟩
  · have : i = 0 ∨ i = 1 := by unfold Okn at hi; omega
    rcases this with rfl | rfl
    · rw [show lev A 0 = 104 from by rw [lev, h.lo]; rfl]; omega
    · rw [show lev A 1 = 104 from by rw [lev, h.hi]; rfl]; omega

/-! ### mk -/
theorem ix_some {A : List N3} {x : N3} {i : Int} (h : ixOf A x = some i) : 2 ≤ i ∧ i < A.length ∧ nd A i = x := by
  unfold ixOf at h
  rw [Option.map_eq_some_iff] at h
  obtain ⟨j, hj, rfl⟩ := h
  rw [List.findIdx?_eq_some_iff_getElem] at hj
  obtain ⟨hl, hx, _⟩ := hj
  simp only [List.length_drop] at hl
  simp only [List.getElem_drop, decide_eq_true_eq] at hx
  refine ⟨by omega, by omega, ?_⟩
  have e : ((j : Int) + 2).toNat = 2 + j := by omega
  have hl' : 2 + j < A.length := by omega
  simp [nd, at_, e, hl', hx]
theorem ix_none {A : List N3} {x : N3} : ixOf A x = none ↔ x ∉ A.drop 2 := by
  unfold ixOf
  rw [Option.map_eq_none_iff, List.findIdx?_eq_none_iff]
  constructor
  · intro h hx; have := h x hx; simp at this
  · intro h y hy; simp only [decide_eq_false_iff_not]; rintro rfl; exact h hy

theorem ix_push {A : List N3} {x : N3} (h2 : 2 ≤ A.length) (h : ixOf A x = none) (z : N3) : ixOf (A ++ [x]) z = if z = x then some (A.length : Int) else ixOf A z := by
  have e : (A ++ [x]).drop 2 = A.drop 2 ++ [x] := List.drop_append_of_le_length h2
  unfold ixOf
  rw [e, List.findIdx?_append]
  by_cases hz : z = x
  · subst hz
    have := (ix_none (A := A)).1 h
    rw [if_pos rfl]
    have hn : (A.drop 2).findIdx? (fun y => decide (y = z)) = none := by
      rw [List.findIdx?_eq_none_iff]; intro y hy; simp only [decide_eq_false_iff_not]; rintro rfl; exact this hy
    rw [hn]
    simp [List.findIdx?_cons]
    omega
  · rw [if_neg hz]
    have : List.findIdx? (fun y => decide (y = z)) [x] = none := by
      simp [List.findIdx?_cons]; exact fun h => hz h.symm
    rw [this]
    simp

/-- mk's answer -/
def mkF (A : List N3) (most : Int) (x : N3) : List N3 × Int × Int :=
  if x.2.1 = x.2.2 then (A, x.2.1, 0) else match ixOf A x with
  | some i => (A, i, 0)
  | none => if most ≤ A.length then (A, 0, 20) else (A ++ [x], A.length, 0)

theorem nd_push_lt {A : List N3} {x : N3} {i : Int} (hi : Okn A i) : nd (A ++ [x]) i = nd A i := nd_pre ⟨[x], rfl⟩ hi
theorem nd_push {A : List N3} {x : N3} : nd (A ++ [x]) (A.length : Int) = x := by simp [nd, at_]
theorem wf_push {A : List N3} {x : N3} (h : Wf A) (hx : 0 ≤ x.1 ∧ x.1 < 104) (hl : Okn A x.2.1) (hh : Okn A x.2.2) (hne : x.2.1 ≠ x.2.2) (h1 : x.1 < lev A x.2.1) (h2 : x.1 < lev A x.2.2) (hi : ixOf A x = none) : Wf (A ++ [x]) := by
  have hl2 := h.len
  refine ⟨by simp; omega, ?_, ?_, fun i h2i hii => ?_, ?_⟩
  · rw [nd_push_lt ⟨by omega, by omega⟩]; exact h.lo
  · rw [nd_push_lt ⟨by omega, by omega⟩]; exact h.hi
  · simp only [List.length_append, List.length_cons, List.length_nil] at hii
    by_cases hq : i < A.length
    · have n := h.node i h2i hq
      rw [nd_push_lt ⟨by omega, hq⟩]
      rw [lev, lev, nd_push_lt ⟨n.2.2.1, by omega⟩, nd_push_lt ⟨n.2.2.2.2.1, by omega⟩]
      exact n
    · obtain rfl : i = A.length := by omega
      rw [nd_push, lev, lev, nd_push_lt hl, nd_push_lt hh]
      exact ⟨hx.1, hx.2, hl.1, hl.2, hh.1, hh.2, hne, h1, h2⟩
  · rw [List.drop_append_of_le_length hl2, List.nodup_append]
    refine ⟨h.nodup, by simp, fun a ha b hb => ?_⟩
    simp only [List.mem_singleton] at hb
    subst hb
    rintro rfl
    exact ix_none.1 hi ha

/-- What an arena's operation answers: r, or refused for want of room; all nodes that were stay. -/
structure Res (A A' : List N3) (most : Int) (e : Int) (good : Prop) : Prop where
  wf : Wf A'
  pre : A <+: A'
  room : (A'.length : Int) ≤ most
  ok : e = 0 ∧ good ∨ e = 20

theorem mk_res {A : List N3} {most : Int} {x : N3} (h : Wf A) (hm : (A.length : Int) ≤ most) (hx : 0 ≤ x.1 ∧ x.1 < 104) (hl : Okn A x.2.1) (hh : Okn A x.2.2) (h1 : x.1 < lev A x.2.1) (h2 : x.1 < lev A x.2.2) :
    Res A (mkF A most x).1 most (mkF A most x).2.2 (Okn (mkF A most x).1 (mkF A most x).2.1 ∧ (∀ v, den (mkF A most x).1 v (mkF A most x).2.1 = if v x.1 then den A v x.2.2 else den A v x.2.1) ∧ x.1 ≤ lev (mkF A most x).1 (mkF A most x).2.1) := by
  unfold mkF
  by_cases hne : x.2.1 = x.2.2
  · rw [if_pos hne]
    exact ⟨h, List.prefix_refl _, hm, .inl ⟨rfl, hl, fun v => by rw [hne]; split <;> rfl, Int.le_of_lt h1⟩⟩
  · rw [if_neg hne]
    cases hi : ixOf A x with
    | some i =>
      obtain ⟨hi2, hil, hix⟩ := ix_some hi
      refine ⟨h, List.prefix_refl _, hm, .inl ⟨rfl, ⟨show 0 ≤ i by omega, hil⟩, fun v => ?_, ?_⟩⟩
      · simp only []; rw [den_step h v hi2 hil, hix]
      · simp only [lev, hix]; omega
    | none =>
      simp only []
      split
      · exact ⟨h, List.prefix_refl _, hm, .inr rfl⟩
      · have hw := wf_push h hx hl hh hne h1 h2 hi
        have hp : A <+: A ++ [x] := ⟨[x], rfl⟩
        have hl2 := h.len
        refine ⟨hw, hp, by simp; omega, .inl ⟨rfl, ⟨show (0 : Int) ≤ A.length by omega, show (A.length : Int) < (A ++ [x]).length by simp; omega⟩, fun v => ?_, ?_⟩⟩
        · simp only []
          rw [den_step hw v (by omega) (by simp; omega), nd_push, den_pre hp h hw v _ hl, den_pre hp h hw v _ hh]
        · show x.1 ≤ lev (A ++ [x]) (A.length : Int)
          rw [lev, nd_push]; exact Int.le_refl _

/-! ### join -/
def opK (k : Int) (a b : Bool) : Bool := if k = 0 then a && b else if k = 1 then a || b else if k = 2 then xor a b else a && !b
/-- What a join answers. -/
def JoinGood (A A' : List N3) (k f g r : Int) : Prop := Okn A' r ∧ (∀ v, den A' v r = opK k (den A v f) (den A v g)) ∧ min (lev A f) (lev A g) ≤ lev A' r
def SeenOk (A : List N3) (k : Int) (S : Int × Int → Option Int) : Prop := ∀ p r, S p = some r → Okn A p.1 ∧ Okn A p.2 ∧ JoinGood A A k p.1 p.2 r
theorem JoinGood.pre {A A' B : List N3} {k f g r : Int} (hA : Wf A') (hB : Wf B) (hp : A' <+: B) (h : JoinGood A A' k f g r) : JoinGood A B k f g r :=
  ⟨ok_pre hp h.1, fun v => by rw [den_pre hp hA hB v r h.1]; exact h.2.1 v, by
    have e : lev B r = lev A' r := by rw [lev, nd_pre hp h.1]
    rw [e]; exact h.2.2⟩
theorem JoinGood.base {A B C : List N3} {k f g r : Int} (hA : Wf A) (hB : Wf B) (hp : A <+: B) (hf : Okn A f) (hg : Okn A g) (h : JoinGood A C k f g r) : JoinGood B C k f g r :=
  ⟨h.1, fun v => by rw [den_pre hp hA hB v f hf, den_pre hp hA hB v g hg]; exact h.2.1 v, by
    have e1 : lev B f = lev A f := by rw [lev, nd_pre hp hf]
    have e2 : lev B g = lev A g := by rw [lev, nd_pre hp hg]
    rw [e1, e2]; exact h.2.2⟩
theorem SeenOk.pre {A B : List N3} {k : Int} {S : Int × Int → Option Int} (hA : Wf A) (hB : Wf B) (hp : A <+: B) (h : SeenOk A k S) : SeenOk B k S := fun p r hs => by
  obtain ⟨h1, h2, h3⟩ := h p r hs
  exact ⟨ok_pre hp h1, ok_pre hp h2, (h3.pre hA hB hp).base hA hB hp h1 h2⟩
theorem SeenOk.put {A : List N3} {k : Int} {S : Int × Int → Option Int} (h : SeenOk A k S) {f g r : Int} (hf : Okn A f) (hg : Okn A g) (hj : JoinGood A A k f g r) : SeenOk A k (fun q => if q = (f, g) then some r else S q) := fun p r' hs => by
  by_cases hp : p = (f, g)
  · subst hp
    simp only [if_true] at hs
    injection hs with hs
    subst hs
    exact ⟨hf, hg, hj⟩
  · simp only [if_neg hp] at hs
    exact h p r' hs
theorem SeenOk.none (A : List N3) (k : Int) : SeenOk A k (fun _ => none) := fun p r h => by cases h

def partF (A : List N3) (f k : Int) : Int × Int := if lev A f = k then ((nd A f).2.1, (nd A f).2.2) else (f, f)
theorem part_ok {A : List N3} (h : Wf A) {f k : Int} (hf : Okn A f) (hk : k ≤ lev A f) (h104 : k < 104) :
    Okn A (partF A f k).1 ∧ Okn A (partF A f k).2 ∧ k < lev A (partF A f k).1 ∧ k < lev A (partF A f k).2 ∧ ∀ v, den A v f = if v k then den A v (partF A f k).2 else den A v (partF A f k).1 := by
  unfold partF
  by_cases hl : lev A f = k
  · have h2 : 2 ≤ f := by
      have := (lev_le h hf).2.2
      unfold Okn at hf; omega
    have n := h.node f h2 hf.2
    rw [if_pos hl]
    subst hl
    exact ⟨⟨n.2.2.1, by unfold Okn at hf; omega⟩, ⟨n.2.2.2.2.1, by unfold Okn at hf; omega⟩, n.2.2.2.2.2.2.2.1, n.2.2.2.2.2.2.2.2, fun v => den_step h v h2 hf.2⟩
  · rw [if_neg hl]
    exact ⟨hf, hf, show k < lev A f by omega, show k < lev A f by omega, fun v => by split <;> rfl⟩

/-- the two halves, and what mk makes of them -/
theorem join_fin {A A1 A2 : List N3} {most k f g lv r1 r2 : Int} (hA : Wf A) (hf : Okn A f) (hg : Okn A g) (hlv : lv = min (lev A f) (lev A g)) (h104 : lv < 104)
    (h1 : Wf A1) (p1 : A <+: A1) (j1 : JoinGood A A1 k (partF A f lv).1 (partF A g lv).1 r1)
    (h2 : Wf A2) (p2 : A1 <+: A2) (m2 : (A2.length : Int) ≤ most) (j2 : JoinGood A1 A2 k (partF A f lv).2 (partF A g lv).2 r2) :
    Res A2 (mkF A2 most (lv, r1, r2)).1 most (mkF A2 most (lv, r1, r2)).2.2 (JoinGood A (mkF A2 most (lv, r1, r2)).1 k f g (mkF A2 most (lv, r1, r2)).2.1) := by
  have pf := part_ok hA hf (k := lv) (by omega) h104
  have pg := part_ok hA hg (k := lv) (by omega) h104
  have j1' := j1.pre h1 h2 p2
  have p02 := p1.trans p2
  have j2' : JoinGood A A2 k (partF A f lv).2 (partF A g lv).2 r2 := by
    refine ⟨j2.1, fun v => ?_, ?_⟩
    · rw [j2.2.1 v, den_pre p1 hA h1 v _ pf.2.1, den_pre p1 hA h1 v _ pg.2.1]
    · have := j2.2.2
      rw [lev, lev, nd_pre p1 pf.2.1, nd_pre p1 pg.2.1] at this
      exact this
  have l0 := (lev_le hA hf).1
  have l1 := (lev_le hA hg).1
  have hm := mk_res (A := A2) (most := most) (x := (lv, r1, r2)) h2 m2 ⟨by simp only []; omega, h104⟩ j1'.1 j2'.1 (by have := j1'.2.2; simp only []; omega) (by have := j2'.2.2; simp only []; omega)
  refine ⟨hm.wf, hm.pre, hm.room, hm.ok.imp (fun ⟨he, h1', h2', h3'⟩ => ⟨he, h1', fun v => ?_, by simp only [] at h3'; omega⟩) id⟩
  rw [h2' v, pf.2.2.2.2 v, pg.2.2.2.2 v, j1'.2.1 v, j2'.2.1 v]
  simp only []
  split <;> rfl

/-! ### cut -/
theorem ix_cut {A : List N3} {x : N3} (h : (A ++ [x]).length ≥ 3) (hn : ((A ++ [x]).drop 2).Nodup) (z : N3) : ixOf A z = if z = x then none else ixOf (A ++ [x]) z := by
  have h2 : 2 ≤ A.length := by simp at h; omega
  rw [List.drop_append_of_le_length h2, List.nodup_append] at hn
  have hx : ixOf A x = none := by
    rw [ix_none]
    intro hm
    exact hn.2.2 x hm x (by simp) rfl
  by_cases hz : z = x
  · subst hz; rw [if_pos rfl]; exact hx
  · rw [if_neg hz, ix_push h2 hx, if_neg hz]
theorem take_last {A : List N3} {m : Nat} (h : m + 1 ≤ A.length) : A.take (m + 1) = A.take m ++ [nd (A.take (m + 1)) m] := by
  have e : nd (A.take (m + 1)) m = A[m] := by
    have : m < A.length := by omega
    simp [nd, at_, List.getElem?_take, this]
  rw [e, List.take_succ_eq_append_getElem (by omega)]
theorem ix_take {A : List N3} {m : Nat} (h2 : 2 ≤ m) (h : m + 1 ≤ A.length) (hn : (A.drop 2).Nodup) : (fun z => if z = nd (A.take (m + 1)) m then none else ixOf (A.take (m + 1)) z) = ixOf (A.take m) := by
  have e := take_last h
  have hd : ((A.take (m + 1)).drop 2).Nodup := by rw [List.drop_take]; exact hn.sublist (List.take_sublist _ _)
  funext z
  rw [e] at hd ⊢
  have hl : (A.take m ++ [nd (A.take (m + 1)) m]).length ≥ 3 := by simp; omega
  have := ix_cut hl hd z
  rw [this]
  have en : nd (A.take m ++ [nd (A.take (m + 1)) m]) m = nd (A.take (m + 1)) m := by rw [← e]
  rw [en]
end Go.Proofs.Yticodddigaiipaa
