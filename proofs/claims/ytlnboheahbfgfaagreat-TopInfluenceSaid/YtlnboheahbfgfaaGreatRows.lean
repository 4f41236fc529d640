/-
  No cell of these rows narrows 'for every input' (looked for: loops, veiled, ifaces, maps, wideKeys, modest, calm, conditions, laid).
  DERIVED. THE GIVEN ROWS OF THIS SEAT. 6 by the template 'for every input the law returns true; each argument reads behind the call as it read before'; 0 by the template 'total and deterministic' (their statements: YtlnboheahbfgfaaGreatTotals.lean).
  GIVEN WITH THE SEED: the statements are not yours to turn. If you find one false, say at which input.
  Laid BY PROGRAM, IN A SANDBOX (cutbox-rows.mjs): the forced cells as the released guide's own fill.sh prints them over the translation 6e84a9230e8e9a2b… (all of the seat's roots in one cut). By AI agents, Wed Nov 11 2026. No macro, syntax, notation, axiom, sorry.
-/
import Derived.Test.YtlnboheahbfgfaaGreatChecked
import GoSem.Claim
import GoSem.ClaimJoined
import GoSem.ClaimMapViews
import Derived.JoinedTies
import Derived.KernelRfl
namespace Go.Proofs.YtlnboheahbfgfaaGreat
/- THE CELL 'sum', in the pinned program and in every row, IS THE sha256 OF THE DUMP (.gsa) THAT YtlnboheahbfgfaaGreatProg.lean LOADS. Nothing in Lean hashes anything: it is a label: what it is worth is what the hold of that sum in a sandbox is worth. -/
noncomputable def Tryz.pinned : Pinned := { name := "ytlnboheahbfgfaagreat", sum := "6e84a9230e8e9a2be6872b7eafab0f5cc7a686d7c1cc3cb10407be6c66445724", checked := Tryz.checked }
namespace Rows
def none {H : Type} : Left H := { results := [], args := [] }

/-- 'sectimetop.TopInfluence': WHATEVER THE INPUT: true; the input reads as it did. -/
def topInfluenceSpec : ChangeSpec := { name := "topInfluence", fn := fun _ => fun
  | [d1, d2, d3] => { results := [.lit (.bool true)], args := [d1, d2, d3] }
  | _ => none }
def topInfluenceRow : OpenClaim := { program := "ytlnboheahbfgfaagreat", sum := "6e84a9230e8e9a2be6872b7eafab0f5cc7a686d7c1cc3cb10407be6c66445724", func := "sectime/sectimetop.TopInfluence", spec := "topInfluence", unfollowed := true, recurses := true, named := ["math/bits.divideError", "math/bits.overflowError"], apart := false }
def TopInfluenceSaid : Prop := topInfluenceRow.holds Tryz.pinned (OpenSpec.ofChange topInfluenceSpec)

/-- ITS FALSE NEIGHBOUR: 'it returns false'. Refute it at one input. -/
def topInfluenceWrong : ChangeSpec := { name := "topInfluence", fn := fun _ => fun
  | [d1, d2, d3] => { results := [.lit (.bool false)], args := [d1, d2, d3] }
  | _ => none }
def TopInfluenceWrongFalsely : Prop := topInfluenceRow.holds Tryz.pinned (OpenSpec.ofChange topInfluenceWrong)

/-- 'sectimelaw41.SimulateIgnoresWhatLiarsSay': WHATEVER THE INPUT: true; the input reads as it did. -/
def simulateIgnoresWhatLiarsSaySpec : ChangeSpec := { name := "simulateIgnoresWhatLiarsSay", fn := fun _ => fun
  | [d1, d2, d3] => { results := [.lit (.bool true)], args := [d1, d2, d3] }
  | _ => none }
def simulateIgnoresWhatLiarsSayRow : OpenClaim := { program := "ytlnboheahbfgfaagreat", sum := "6e84a9230e8e9a2be6872b7eafab0f5cc7a686d7c1cc3cb10407be6c66445724", func := "sectime/sectimelaw41.SimulateIgnoresWhatLiarsSay", spec := "simulateIgnoresWhatLiarsSay", unfollowed := true, recurses := true, named := ["math/bits.divideError", "math/bits.overflowError"], apart := false }
def SimulateIgnoresWhatLiarsSaySaid : Prop := simulateIgnoresWhatLiarsSayRow.holds Tryz.pinned (OpenSpec.ofChange simulateIgnoresWhatLiarsSaySpec)

/-- ITS FALSE NEIGHBOUR: 'it returns false'. Refute it at one input. -/
def simulateIgnoresWhatLiarsSayWrong : ChangeSpec := { name := "simulateIgnoresWhatLiarsSay", fn := fun _ => fun
  | [d1, d2, d3] => { results := [.lit (.bool false)], args := [d1, d2, d3] }
  | _ => none }
def SimulateIgnoresWhatLiarsSayWrongFalsely : Prop := simulateIgnoresWhatLiarsSayRow.holds Tryz.pinned (OpenSpec.ofChange simulateIgnoresWhatLiarsSayWrong)

/-- 'sectimelaw41.SimulateNarrowsByMeeting': WHATEVER THE INPUT: true; the input reads as it did. -/
def simulateNarrowsByMeetingSpec : ChangeSpec := { name := "simulateNarrowsByMeeting", fn := fun _ => fun
  | [d] => { results := [.lit (.bool true)], args := [d] }
  | _ => none }
def simulateNarrowsByMeetingRow : OpenClaim := { program := "ytlnboheahbfgfaagreat", sum := "6e84a9230e8e9a2be6872b7eafab0f5cc7a686d7c1cc3cb10407be6c66445724", func := "sectime/sectimelaw41.SimulateNarrowsByMeeting", spec := "simulateNarrowsByMeeting", unfollowed := true, recurses := true, named := ["math/bits.divideError", "math/bits.overflowError"], apart := false }
def SimulateNarrowsByMeetingSaid : Prop := simulateNarrowsByMeetingRow.holds Tryz.pinned (OpenSpec.ofChange simulateNarrowsByMeetingSpec)

/-- ITS FALSE NEIGHBOUR: 'it returns false'. Refute it at one input. -/
def simulateNarrowsByMeetingWrong : ChangeSpec := { name := "simulateNarrowsByMeeting", fn := fun _ => fun
  | [d] => { results := [.lit (.bool false)], args := [d] }
  | _ => none }
def SimulateNarrowsByMeetingWrongFalsely : Prop := simulateNarrowsByMeetingRow.holds Tryz.pinned (OpenSpec.ofChange simulateNarrowsByMeetingWrong)

/-- 'sectimelaw41.SimulateRuns': WHATEVER THE INPUT: true; the input reads as it did. -/
def simulateRunsSpec : ChangeSpec := { name := "simulateRuns", fn := fun _ => fun
  | [d1, d2] => { results := [.lit (.bool true)], args := [d1, d2] }
  | _ => none }
def simulateRunsRow : OpenClaim := { program := "ytlnboheahbfgfaagreat", sum := "6e84a9230e8e9a2be6872b7eafab0f5cc7a686d7c1cc3cb10407be6c66445724", func := "sectime/sectimelaw41.SimulateRuns", spec := "simulateRuns", unfollowed := true, recurses := true, named := ["math/bits.divideError", "math/bits.overflowError"], apart := false }
def SimulateRunsSaid : Prop := simulateRunsRow.holds Tryz.pinned (OpenSpec.ofChange simulateRunsSpec)

/-- ITS FALSE NEIGHBOUR: 'it returns false'. Refute it at one input. -/
def simulateRunsWrong : ChangeSpec := { name := "simulateRuns", fn := fun _ => fun
  | [d1, d2] => { results := [.lit (.bool false)], args := [d1, d2] }
  | _ => none }
def SimulateRunsWrongFalsely : Prop := simulateRunsRow.holds Tryz.pinned (OpenSpec.ofChange simulateRunsWrong)

/-- 'sectimelaw41.SimulateRefusesSchedules': WHATEVER THE INPUT: true; the input reads as it did. -/
def simulateRefusesSchedulesSpec : ChangeSpec := { name := "simulateRefusesSchedules", fn := fun _ => fun
  | [d1, d2, d3, d4] => { results := [.lit (.bool true)], args := [d1, d2, d3, d4] }
  | _ => none }
def simulateRefusesSchedulesRow : OpenClaim := { program := "ytlnboheahbfgfaagreat", sum := "6e84a9230e8e9a2be6872b7eafab0f5cc7a686d7c1cc3cb10407be6c66445724", func := "sectime/sectimelaw41.SimulateRefusesSchedules", spec := "simulateRefusesSchedules", unfollowed := true, recurses := true, named := ["math/bits.divideError", "math/bits.overflowError"], apart := false }
def SimulateRefusesSchedulesSaid : Prop := simulateRefusesSchedulesRow.holds Tryz.pinned (OpenSpec.ofChange simulateRefusesSchedulesSpec)

/-- ITS FALSE NEIGHBOUR: 'it returns false'. Refute it at one input. -/
def simulateRefusesSchedulesWrong : ChangeSpec := { name := "simulateRefusesSchedules", fn := fun _ => fun
  | [d1, d2, d3, d4] => { results := [.lit (.bool false)], args := [d1, d2, d3, d4] }
  | _ => none }
def SimulateRefusesSchedulesWrongFalsely : Prop := simulateRefusesSchedulesRow.holds Tryz.pinned (OpenSpec.ofChange simulateRefusesSchedulesWrong)

/-- 'sectimelaw41.SimulateContainsTruth': WHATEVER THE INPUT: true; the input reads as it did. -/
def simulateContainsTruthSpec : ChangeSpec := { name := "simulateContainsTruth", fn := fun _ => fun
  | [d] => { results := [.lit (.bool true)], args := [d] }
  | _ => none }
def simulateContainsTruthRow : OpenClaim := { program := "ytlnboheahbfgfaagreat", sum := "6e84a9230e8e9a2be6872b7eafab0f5cc7a686d7c1cc3cb10407be6c66445724", func := "sectime/sectimelaw41.SimulateContainsTruth", spec := "simulateContainsTruth", unfollowed := true, recurses := true, named := ["math/bits.divideError", "math/bits.overflowError"], apart := false }
def SimulateContainsTruthSaid : Prop := simulateContainsTruthRow.holds Tryz.pinned (OpenSpec.ofChange simulateContainsTruthSpec)

/-- ITS FALSE NEIGHBOUR: 'it returns false'. Refute it at one input. -/
def simulateContainsTruthWrong : ChangeSpec := { name := "simulateContainsTruth", fn := fun _ => fun
  | [d] => { results := [.lit (.bool false)], args := [d] }
  | _ => none }
def SimulateContainsTruthWrongFalsely : Prop := simulateContainsTruthRow.holds Tryz.pinned (OpenSpec.ofChange simulateContainsTruthWrong)

/- THE SECOND FORM. 'bulk': how many values and letters a reading holds, each counted each time it is reached (what is shared counts as often as it is met; a slice's spare places count too). A statement '..UptoSaid' is the law's where the arguments, and the package variables that the reading takes, are together of bulk at most 1048576: NARROWER than '..Said'. Prove '..Said' where nothing that the law and all that it calls make is longer than what came in: it says more and counts as full. Else prove '..UptoSaid'. A law counts once. -/
mutual
def uptoBulk {H : Type} : DataW H → Nat
  | .lit (.string bytes) => bytes.length + 1
  | .lit _ => 1
  | .nil => 1
  | .ptr d => uptoBulk d + 1
  | .slice elems spare => uptoBulkAll elems + uptoBulkAll spare + 1
  | .agg parts => uptoBulkAll parts + 1
  | .iface _ d => uptoBulk d + 1
  | .map entries => uptoBulkEntries entries + 1
  | .held _ => 1
def uptoBulkAll {H : Type} : List (DataW H) → Nat
  | [] => 0
  | d :: r => uptoBulk d + uptoBulkAll r
def uptoBulkEntries {H : Type} : List (Lit × DataW H) → Nat
  | [] => 0
  | x :: r => uptoBulkEntry x + uptoBulkEntries r
def uptoBulkEntry {H : Type} : Lit × DataW H → Nat
  | (.string bytes, d) => bytes.length + uptoBulk d + 1
  | (_, d) => uptoBulk d + 1
 end
def uptoSmall : (H : Type) → List (DataW H) → Bool := fun _ ds => decide (uptoBulkAll ds ≤ 1048576)
def OpenSpec.upto (s : _root_.Go.ChangeSpec) : _root_.Go.OpenSpec := { _root_.Go.OpenSpec.ofChange s with cond := some uptoSmall }

/-- 'sectimetop.TopInfluence', WHERE WHAT IT READS IS OF BULK AT MOST 1048576: true; the input reads as it did. -/
def topInfluenceUptoRow : OpenClaim := { program := "ytlnboheahbfgfaagreat", sum := "6e84a9230e8e9a2be6872b7eafab0f5cc7a686d7c1cc3cb10407be6c66445724", func := "sectime/sectimetop.TopInfluence", spec := "topInfluence", unfollowed := true, recurses := true, named := ["math/bits.divideError", "math/bits.overflowError"], apart := false, narrowed := true }
def TopInfluenceUptoSaid : Prop := topInfluenceUptoRow.holds Tryz.pinned (OpenSpec.upto topInfluenceSpec)

/-- 'sectimelaw41.SimulateIgnoresWhatLiarsSay', WHERE WHAT IT READS IS OF BULK AT MOST 1048576: true; the input reads as it did. -/
def simulateIgnoresWhatLiarsSayUptoRow : OpenClaim := { program := "ytlnboheahbfgfaagreat", sum := "6e84a9230e8e9a2be6872b7eafab0f5cc7a686d7c1cc3cb10407be6c66445724", func := "sectime/sectimelaw41.SimulateIgnoresWhatLiarsSay", spec := "simulateIgnoresWhatLiarsSay", unfollowed := true, recurses := true, named := ["math/bits.divideError", "math/bits.overflowError"], apart := false, narrowed := true }
def SimulateIgnoresWhatLiarsSayUptoSaid : Prop := simulateIgnoresWhatLiarsSayUptoRow.holds Tryz.pinned (OpenSpec.upto simulateIgnoresWhatLiarsSaySpec)

/-- 'sectimelaw41.SimulateNarrowsByMeeting', WHERE WHAT IT READS IS OF BULK AT MOST 1048576: true; the input reads as it did. -/
def simulateNarrowsByMeetingUptoRow : OpenClaim := { program := "ytlnboheahbfgfaagreat", sum := "6e84a9230e8e9a2be6872b7eafab0f5cc7a686d7c1cc3cb10407be6c66445724", func := "sectime/sectimelaw41.SimulateNarrowsByMeeting", spec := "simulateNarrowsByMeeting", unfollowed := true, recurses := true, named := ["math/bits.divideError", "math/bits.overflowError"], apart := false, narrowed := true }
def SimulateNarrowsByMeetingUptoSaid : Prop := simulateNarrowsByMeetingUptoRow.holds Tryz.pinned (OpenSpec.upto simulateNarrowsByMeetingSpec)

/-- 'sectimelaw41.SimulateRuns', WHERE WHAT IT READS IS OF BULK AT MOST 1048576: true; the input reads as it did. -/
def simulateRunsUptoRow : OpenClaim := { program := "ytlnboheahbfgfaagreat", sum := "6e84a9230e8e9a2be6872b7eafab0f5cc7a686d7c1cc3cb10407be6c66445724", func := "sectime/sectimelaw41.SimulateRuns", spec := "simulateRuns", unfollowed := true, recurses := true, named := ["math/bits.divideError", "math/bits.overflowError"], apart := false, narrowed := true }
def SimulateRunsUptoSaid : Prop := simulateRunsUptoRow.holds Tryz.pinned (OpenSpec.upto simulateRunsSpec)

/-- 'sectimelaw41.SimulateRefusesSchedules', WHERE WHAT IT READS IS OF BULK AT MOST 1048576: true; the input reads as it did. -/
def simulateRefusesSchedulesUptoRow : OpenClaim := { program := "ytlnboheahbfgfaagreat", sum := "6e84a9230e8e9a2be6872b7eafab0f5cc7a686d7c1cc3cb10407be6c66445724", func := "sectime/sectimelaw41.SimulateRefusesSchedules", spec := "simulateRefusesSchedules", unfollowed := true, recurses := true, named := ["math/bits.divideError", "math/bits.overflowError"], apart := false, narrowed := true }
def SimulateRefusesSchedulesUptoSaid : Prop := simulateRefusesSchedulesUptoRow.holds Tryz.pinned (OpenSpec.upto simulateRefusesSchedulesSpec)

/-- 'sectimelaw41.SimulateContainsTruth', WHERE WHAT IT READS IS OF BULK AT MOST 1048576: true; the input reads as it did. -/
def simulateContainsTruthUptoRow : OpenClaim := { program := "ytlnboheahbfgfaagreat", sum := "6e84a9230e8e9a2be6872b7eafab0f5cc7a686d7c1cc3cb10407be6c66445724", func := "sectime/sectimelaw41.SimulateContainsTruth", spec := "simulateContainsTruth", unfollowed := true, recurses := true, named := ["math/bits.divideError", "math/bits.overflowError"], apart := false, narrowed := true }
def SimulateContainsTruthUptoSaid : Prop := simulateContainsTruthUptoRow.holds Tryz.pinned (OpenSpec.upto simulateContainsTruthSpec)

end Rows
end Go.Proofs.YtlnboheahbfgfaaGreat
