/-
  No cell of these rows narrows 'for every input' (looked for: loops, veiled, ifaces, maps, wideKeys, modest, calm, conditions, laid).
  DERIVED. THE GIVEN ROWS OF THIS SEAT. 9 by the template 'for every input the law returns true; each argument reads behind the call as it read before'; 0 by the template 'total and deterministic' (their statements: YticodddigaiipaaTotals.lean).
  GIVEN WITH THE SEED: the statements are not yours to turn. If you find one false, say at which input.
  Laid BY PROGRAM, IN A SANDBOX (cutbox-rows.mjs): the forced cells as the released guide's own fill.sh prints them over the translation 540921e40d6b3bb8… (all of the seat's roots in one cut). By AI agents, Wed Nov 11 2026. No macro, syntax, notation, axiom, sorry.
-/
import Derived.Test.YticodddigaiipaaChecked
import GoSem.Claim
import GoSem.ClaimJoined
import GoSem.ClaimMapViews
import Derived.JoinedTies
import Derived.KernelRfl
namespace Go.Proofs.Yticodddigaiipaa
/- THE CELL 'sum', in the pinned program and in every row, IS THE sha256 OF THE DUMP (.gsa) THAT YticodddigaiipaaProg.lean LOADS. Nothing in Lean hashes anything: it is a label: what it is worth is what the hold of that sum in a sandbox is worth. -/
noncomputable def Try.pinned : Pinned := { name := "yticodddigaiipaa", sum := "540921e40d6b3bb820f319fdec58a19884880069671bf487ecb2b0e047325011", checked := Try.checked }
namespace Rows
def none {H : Type} : Left H := { results := [], args := [] }

/-- 'crossbucklaw07.EncFull': WHATEVER THE INPUT: true; the input reads as it did. -/
def encFullSpec : ChangeSpec := { name := "encFull", fn := fun _ => fun
  | [d1, d2, d3] => { results := [.lit (.bool true)], args := [d1, d2, d3] }
  | _ => none }
def encFullRow : OpenClaim := { program := "yticodddigaiipaa", sum := "540921e40d6b3bb820f319fdec58a19884880069671bf487ecb2b0e047325011", func := "crossbuck/crossbucklaw07.EncFull", spec := "encFull", unfollowed := true, recurses := true, plainKeys := false, apart := false }
def EncFullSaid : Prop := encFullRow.holds Try.pinned (OpenSpec.ofChange encFullSpec)

/-- ITS FALSE NEIGHBOUR: 'it returns false'. Refute it at one input. -/
def encFullWrong : ChangeSpec := { name := "encFull", fn := fun _ => fun
  | [d1, d2, d3] => { results := [.lit (.bool false)], args := [d1, d2, d3] }
  | _ => none }
def EncFullWrongFalsely : Prop := encFullRow.holds Try.pinned (OpenSpec.ofChange encFullWrong)

/-- 'crossbucklaw08.SatCounts': WHATEVER THE INPUT: true; the input reads as it did. -/
def satCountsSpec : ChangeSpec := { name := "satCounts", fn := fun _ => fun
  | [d] => { results := [.lit (.bool true)], args := [d] }
  | _ => none }
def satCountsRow : OpenClaim := { program := "yticodddigaiipaa", sum := "540921e40d6b3bb820f319fdec58a19884880069671bf487ecb2b0e047325011", func := "crossbuck/crossbucklaw08.SatCounts", spec := "satCounts", inPlace := ["math/bits.Add64"], recurses := true, plainKeys := false, apart := false }
def SatCountsSaid : Prop := satCountsRow.holds Try.pinned (OpenSpec.ofChange satCountsSpec)

/-- ITS FALSE NEIGHBOUR: 'it returns false'. Refute it at one input. -/
def satCountsWrong : ChangeSpec := { name := "satCounts", fn := fun _ => fun
  | [d] => { results := [.lit (.bool false)], args := [d] }
  | _ => none }
def SatCountsWrongFalsely : Prop := satCountsRow.holds Try.pinned (OpenSpec.ofChange satCountsWrong)

/-- 'crossbucklaw17.BatchApplies': WHATEVER THE INPUT: true; the input reads as it did. -/
def batchAppliesSpec : ChangeSpec := { name := "batchApplies", fn := fun _ => fun
  | [d1, d2, d3] => { results := [.lit (.bool true)], args := [d1, d2, d3] }
  | _ => none }
def batchAppliesRow : OpenClaim := { program := "yticodddigaiipaa", sum := "540921e40d6b3bb820f319fdec58a19884880069671bf487ecb2b0e047325011", func := "crossbuck/crossbucklaw17.BatchApplies", spec := "batchApplies", inPlace := ["slices.overlaps[int]"], unfollowed := true, recurses := true, plainKeys := false, apart := false }
def BatchAppliesSaid : Prop := batchAppliesRow.holds Try.pinned (OpenSpec.ofChange batchAppliesSpec)

/-- ITS FALSE NEIGHBOUR: 'it returns false'. Refute it at one input. -/
def batchAppliesWrong : ChangeSpec := { name := "batchApplies", fn := fun _ => fun
  | [d1, d2, d3] => { results := [.lit (.bool false)], args := [d1, d2, d3] }
  | _ => none }
def BatchAppliesWrongFalsely : Prop := batchAppliesRow.holds Try.pinned (OpenSpec.ofChange batchAppliesWrong)

/-- 'crossbucklaw17.BatchJoins': WHATEVER THE INPUT: true; the input reads as it did. -/
def batchJoinsSpec : ChangeSpec := { name := "batchJoins", fn := fun _ => fun
  | [d1, d2, d3, d4] => { results := [.lit (.bool true)], args := [d1, d2, d3, d4] }
  | _ => none }
def batchJoinsRow : OpenClaim := { program := "yticodddigaiipaa", sum := "540921e40d6b3bb820f319fdec58a19884880069671bf487ecb2b0e047325011", func := "crossbuck/crossbucklaw17.BatchJoins", spec := "batchJoins", inPlace := ["slices.overlaps[int]"], unfollowed := true, recurses := true, plainKeys := false, apart := false }
def BatchJoinsSaid : Prop := batchJoinsRow.holds Try.pinned (OpenSpec.ofChange batchJoinsSpec)

/-- ITS FALSE NEIGHBOUR: 'it returns false'. Refute it at one input. -/
def batchJoinsWrong : ChangeSpec := { name := "batchJoins", fn := fun _ => fun
  | [d1, d2, d3, d4] => { results := [.lit (.bool false)], args := [d1, d2, d3, d4] }
  | _ => none }
def BatchJoinsWrongFalsely : Prop := batchJoinsRow.holds Try.pinned (OpenSpec.ofChange batchJoinsWrong)

/-- 'crossbucklaw17.BatchBacks': WHATEVER THE INPUT: true; the input reads as it did. -/
def batchBacksSpec : ChangeSpec := { name := "batchBacks", fn := fun _ => fun
  | [d1, d2, d3] => { results := [.lit (.bool true)], args := [d1, d2, d3] }
  | _ => none }
def batchBacksRow : OpenClaim := { program := "yticodddigaiipaa", sum := "540921e40d6b3bb820f319fdec58a19884880069671bf487ecb2b0e047325011", func := "crossbuck/crossbucklaw17.BatchBacks", spec := "batchBacks", inPlace := ["slices.overlaps[int]"], unfollowed := true, recurses := true, plainKeys := false, apart := false }
def BatchBacksSaid : Prop := batchBacksRow.holds Try.pinned (OpenSpec.ofChange batchBacksSpec)

/-- ITS FALSE NEIGHBOUR: 'it returns false'. Refute it at one input. -/
def batchBacksWrong : ChangeSpec := { name := "batchBacks", fn := fun _ => fun
  | [d1, d2, d3] => { results := [.lit (.bool false)], args := [d1, d2, d3] }
  | _ => none }
def BatchBacksWrongFalsely : Prop := batchBacksRow.holds Try.pinned (OpenSpec.ofChange batchBacksWrong)

/-- 'crossbucklaw13.StepTraces': WHATEVER THE INPUT: true; the input reads as it did. -/
def stepTracesSpec : ChangeSpec := { name := "stepTraces", fn := fun _ => fun
  | [d1, d2, d3, d4] => { results := [.lit (.bool true)], args := [d1, d2, d3, d4] }
  | _ => none }
def stepTracesRow : OpenClaim := { program := "yticodddigaiipaa", sum := "540921e40d6b3bb820f319fdec58a19884880069671bf487ecb2b0e047325011", func := "crossbuck/crossbucklaw13.StepTraces", spec := "stepTraces", inPlace := ["slices.overlaps[int]"], unfollowed := true, recurses := true, plainKeys := false, apart := false }
def StepTracesSaid : Prop := stepTracesRow.holds Try.pinned (OpenSpec.ofChange stepTracesSpec)

/-- ITS FALSE NEIGHBOUR: 'it returns false'. Refute it at one input. -/
def stepTracesWrong : ChangeSpec := { name := "stepTraces", fn := fun _ => fun
  | [d1, d2, d3, d4] => { results := [.lit (.bool false)], args := [d1, d2, d3, d4] }
  | _ => none }
def StepTracesWrongFalsely : Prop := stepTracesRow.holds Try.pinned (OpenSpec.ofChange stepTracesWrong)

/-- 'crossbucklaw13.StepSteps': WHATEVER THE INPUT: true; the input reads as it did. -/
def stepStepsSpec : ChangeSpec := { name := "stepSteps", fn := fun _ => fun
  | [d1, d2, d3, d4] => { results := [.lit (.bool true)], args := [d1, d2, d3, d4] }
  | _ => none }
def stepStepsRow : OpenClaim := { program := "yticodddigaiipaa", sum := "540921e40d6b3bb820f319fdec58a19884880069671bf487ecb2b0e047325011", func := "crossbuck/crossbucklaw13.StepSteps", spec := "stepSteps", inPlace := ["slices.overlaps[int]"], unfollowed := true, recurses := true, plainKeys := false, apart := false }
def StepStepsSaid : Prop := stepStepsRow.holds Try.pinned (OpenSpec.ofChange stepStepsSpec)

/-- ITS FALSE NEIGHBOUR: 'it returns false'. Refute it at one input. -/
def stepStepsWrong : ChangeSpec := { name := "stepSteps", fn := fun _ => fun
  | [d1, d2, d3, d4] => { results := [.lit (.bool false)], args := [d1, d2, d3, d4] }
  | _ => none }
def StepStepsWrongFalsely : Prop := stepStepsRow.holds Try.pinned (OpenSpec.ofChange stepStepsWrong)

/-- 'crossbucklaw13.StepHops': WHATEVER THE INPUT: true; the input reads as it did. -/
def stepHopsSpec : ChangeSpec := { name := "stepHops", fn := fun _ => fun
  | [d1, d2, d3, d4] => { results := [.lit (.bool true)], args := [d1, d2, d3, d4] }
  | _ => none }
def stepHopsRow : OpenClaim := { program := "yticodddigaiipaa", sum := "540921e40d6b3bb820f319fdec58a19884880069671bf487ecb2b0e047325011", func := "crossbuck/crossbucklaw13.StepHops", spec := "stepHops", inPlace := ["slices.overlaps[int]"], unfollowed := true, recurses := true, plainKeys := false, apart := false }
def StepHopsSaid : Prop := stepHopsRow.holds Try.pinned (OpenSpec.ofChange stepHopsSpec)

/-- ITS FALSE NEIGHBOUR: 'it returns false'. Refute it at one input. -/
def stepHopsWrong : ChangeSpec := { name := "stepHops", fn := fun _ => fun
  | [d1, d2, d3, d4] => { results := [.lit (.bool false)], args := [d1, d2, d3, d4] }
  | _ => none }
def StepHopsWrongFalsely : Prop := stepHopsRow.holds Try.pinned (OpenSpec.ofChange stepHopsWrong)

/-- 'crossbucklaw13.StepChanges': WHATEVER THE INPUT: true; the input reads as it did. -/
def stepChangesSpec : ChangeSpec := { name := "stepChanges", fn := fun _ => fun
  | [d1, d2, d3, d4] => { results := [.lit (.bool true)], args := [d1, d2, d3, d4] }
  | _ => none }
def stepChangesRow : OpenClaim := { program := "yticodddigaiipaa", sum := "540921e40d6b3bb820f319fdec58a19884880069671bf487ecb2b0e047325011", func := "crossbuck/crossbucklaw13.StepChanges", spec := "stepChanges", inPlace := ["slices.overlaps[int]"], unfollowed := true, recurses := true, plainKeys := false, apart := false }
def StepChangesSaid : Prop := stepChangesRow.holds Try.pinned (OpenSpec.ofChange stepChangesSpec)

/-- ITS FALSE NEIGHBOUR: 'it returns false'. Refute it at one input. -/
def stepChangesWrong : ChangeSpec := { name := "stepChanges", fn := fun _ => fun
  | [d1, d2, d3, d4] => { results := [.lit (.bool false)], args := [d1, d2, d3, d4] }
  | _ => none }
def StepChangesWrongFalsely : Prop := stepChangesRow.holds Try.pinned (OpenSpec.ofChange stepChangesWrong)

/- THE SECOND FORM. 'bulk': how many values and letters a reading holds, each counted each time it is reached (what is shared counts as often as it is met; a slice's spare places count too). A statement '..UptoSaid' is the law's where the arguments, and the package variables that the reading takes, are together of bulk at most 1048576: NARROWER than '..Said'. Prove '..Said' where nothing that the law and all that it calls make is longer than what came in: it says more and counts as full. Else prove '..UptoSaid'. A law counts once. -/
mutual
def uptoBulk {H : Type} : DataW H → Nat
  | .lit (.string bytes) => bytes.length + 1
  | .lit _ => 1
  | .nil => 1
  | .ptr d => uptoBulk d + 1
  | .slice elems spare => uptoBulkAll elems + uptoBulkAll spare + 1
  | .agg parts => uptoBulkAll parts + 1
  | .iface _ d => uptoBulk d + 1
  | .map entries => uptoBulkEntries entries + 1
  | .held _ => 1
def uptoBulkAll {H : Type} : List (DataW H) → Nat
  | [] => 0
  | d :: r => uptoBulk d + uptoBulkAll r
def uptoBulkEntries {H : Type} : List (Lit × DataW H) → Nat
  | [] => 0
  | x :: r => uptoBulkEntry x + uptoBulkEntries r
def uptoBulkEntry {H : Type} : Lit × DataW H → Nat
  | (.string bytes, d) => bytes.length + uptoBulk d + 1
  | (_, d) => uptoBulk d + 1
 end
def uptoSmall : (H : Type) → List (DataW H) → Bool := fun _ ds => decide (uptoBulkAll ds ≤ 1048576)
def OpenSpec.upto (s : _root_.Go.ChangeSpec) : _root_.Go.OpenSpec := { _root_.Go.OpenSpec.ofChange s with cond := some uptoSmall }

/-- 'crossbucklaw07.EncFull', WHERE WHAT IT READS IS OF BULK AT MOST 1048576: true; the input reads as it did. -/
def encFullUptoRow : OpenClaim := { program := "yticodddigaiipaa", sum := "540921e40d6b3bb820f319fdec58a19884880069671bf487ecb2b0e047325011", func := "crossbuck/crossbucklaw07.EncFull", spec := "encFull", unfollowed := true, recurses := true, plainKeys := false, apart := false, narrowed := true }
def EncFullUptoSaid : Prop := encFullUptoRow.holds Try.pinned (OpenSpec.upto encFullSpec)

/-- 'crossbucklaw08.SatCounts', WHERE WHAT IT READS IS OF BULK AT MOST 1048576: true; the input reads as it did. -/
def satCountsUptoRow : OpenClaim := { program := "yticodddigaiipaa", sum := "540921e40d6b3bb820f319fdec58a19884880069671bf487ecb2b0e047325011", func := "crossbuck/crossbucklaw08.SatCounts", spec := "satCounts", inPlace := ["math/bits.Add64"], recurses := true, plainKeys := false, apart := false, narrowed := true }
def SatCountsUptoSaid : Prop := satCountsUptoRow.holds Try.pinned (OpenSpec.upto satCountsSpec)

/-- 'crossbucklaw17.BatchApplies', WHERE WHAT IT READS IS OF BULK AT MOST 1048576: true; the input reads as it did. -/
def batchAppliesUptoRow : OpenClaim := { program := "yticodddigaiipaa", sum := "540921e40d6b3bb820f319fdec58a19884880069671bf487ecb2b0e047325011", func := "crossbuck/crossbucklaw17.BatchApplies", spec := "batchApplies", inPlace := ["slices.overlaps[int]"], unfollowed := true, recurses := true, plainKeys := false, apart := false, narrowed := true }
def BatchAppliesUptoSaid : Prop := batchAppliesUptoRow.holds Try.pinned (OpenSpec.upto batchAppliesSpec)

/-- 'crossbucklaw17.BatchJoins', WHERE WHAT IT READS IS OF BULK AT MOST 1048576: true; the input reads as it did. -/
def batchJoinsUptoRow : OpenClaim := { program := "yticodddigaiipaa", sum := "540921e40d6b3bb820f319fdec58a19884880069671bf487ecb2b0e047325011", func := "crossbuck/crossbucklaw17.BatchJoins", spec := "batchJoins", inPlace := ["slices.overlaps[int]"], unfollowed := true, recurses := true, plainKeys := false, apart := false, narrowed := true }
def BatchJoinsUptoSaid : Prop := batchJoinsUptoRow.holds Try.pinned (OpenSpec.upto batchJoinsSpec)

/-- 'crossbucklaw17.BatchBacks', WHERE WHAT IT READS IS OF BULK AT MOST 1048576: true; the input reads as it did. -/
def batchBacksUptoRow : OpenClaim := { program := "yticodddigaiipaa", sum := "540921e40d6b3bb820f319fdec58a19884880069671bf487ecb2b0e047325011", func := "crossbuck/crossbucklaw17.BatchBacks", spec := "batchBacks", inPlace := ["slices.overlaps[int]"], unfollowed := true, recurses := true, plainKeys := false, apart := false, narrowed := true }
def BatchBacksUptoSaid : Prop := batchBacksUptoRow.holds Try.pinned (OpenSpec.upto batchBacksSpec)

/-- 'crossbucklaw13.StepTraces', WHERE WHAT IT READS IS OF BULK AT MOST 1048576: true; the input reads as it did. -/
def stepTracesUptoRow : OpenClaim := { program := "yticodddigaiipaa", sum := "540921e40d6b3bb820f319fdec58a19884880069671bf487ecb2b0e047325011", func := "crossbuck/crossbucklaw13.StepTraces", spec := "stepTraces", inPlace := ["slices.overlaps[int]"], unfollowed := true, recurses := true, plainKeys := false, apart := false, narrowed := true }
def StepTracesUptoSaid : Prop := stepTracesUptoRow.holds Try.pinned (OpenSpec.upto stepTracesSpec)

/-- 'crossbucklaw13.StepSteps', WHERE WHAT IT READS IS OF BULK AT MOST 1048576: true; the input reads as it did. -/
def stepStepsUptoRow : OpenClaim := { program := "yticodddigaiipaa", sum := "540921e40d6b3bb820f319fdec58a19884880069671bf487ecb2b0e047325011", func := "crossbuck/crossbucklaw13.StepSteps", spec := "stepSteps", inPlace := ["slices.overlaps[int]"], unfollowed := true, recurses := true, plainKeys := false, apart := false, narrowed := true }
def StepStepsUptoSaid : Prop := stepStepsUptoRow.holds Try.pinned (OpenSpec.upto stepStepsSpec)

/-- 'crossbucklaw13.StepHops', WHERE WHAT IT READS IS OF BULK AT MOST 1048576: true; the input reads as it did. -/
def stepHopsUptoRow : OpenClaim := { program := "yticodddigaiipaa", sum := "540921e40d6b3bb820f319fdec58a19884880069671bf487ecb2b0e047325011", func := "crossbuck/crossbucklaw13.StepHops", spec := "stepHops", inPlace := ["slices.overlaps[int]"], unfollowed := true, recurses := true, plainKeys := false, apart := false, narrowed := true }
def StepHopsUptoSaid : Prop := stepHopsUptoRow.holds Try.pinned (OpenSpec.upto stepHopsSpec)

/-- 'crossbucklaw13.StepChanges', WHERE WHAT IT READS IS OF BULK AT MOST 1048576: true; the input reads as it did. -/
def stepChangesUptoRow : OpenClaim := { program := "yticodddigaiipaa", sum := "540921e40d6b3bb820f319fdec58a19884880069671bf487ecb2b0e047325011", func := "crossbuck/crossbucklaw13.StepChanges", spec := "stepChanges", inPlace := ["slices.overlaps[int]"], unfollowed := true, recurses := true, plainKeys := false, apart := false, narrowed := true }
def StepChangesUptoSaid : Prop := stepChangesUptoRow.holds Try.pinned (OpenSpec.upto stepChangesSpec)

end Rows
end Go.Proofs.Yticodddigaiipaa
