/-
  No cell of these rows narrows 'for every input' (looked for: loops, veiled, ifaces, maps, wideKeys, modest, calm, conditions, laid).
  DERIVED. THE GIVEN ROWS OF THIS SEAT. 11 by the template 'for every input the law returns true; each argument reads behind the call as it read before'; 0 by the template 'total and deterministic' (their statements: YtlfkkfdolnkjfaaTotals.lean).
  GIVEN WITH THE SEED: the statements are not yours to turn. If you find one false, say at which input.
  Laid BY PROGRAM, IN A SANDBOX (cutbox-rows.mjs): the forced cells as the released guide's own fill.sh prints them over the translation d50e613eca79915f… (all of the seat's roots in one cut). By AI agents, Wed Nov 11 2026. No macro, syntax, notation, axiom, sorry.
-/
import Derived.Test.YtlfkkfdolnkjfaaChecked
import GoSem.Claim
import GoSem.ClaimJoined
import GoSem.ClaimMapViews
import Derived.JoinedTies
import Derived.KernelRfl
namespace Go.Proofs.Ytlfkkfdolnkjfaa
/- THE CELL 'sum', in the pinned program and in every row, IS THE sha256 OF THE DUMP (.gsa) THAT YtlfkkfdolnkjfaaProg.lean LOADS. Nothing in Lean hashes anything: it is a label: what it is worth is what the hold of that sum in a sandbox is worth. -/
noncomputable def Try.pinned : Pinned := { name := "ytlfkkfdolnkjfaa", sum := "d50e613eca79915f6909c830b1427c640c0863973c7e2d903c15bc8e9bf8e784", checked := Try.checked }
namespace Rows
def none {H : Type} : Left H := { results := [], args := [] }

/-- 'sectimelaw23.ExchangeHoldsTrueTime': WHATEVER THE INPUT: true; the input reads as it did. -/
def exchangeHoldsTrueTimeSpec : ChangeSpec := { name := "exchangeHoldsTrueTime", fn := fun _ => fun
  | [d1, d2, d3] => { results := [.lit (.bool true)], args := [d1, d2, d3] }
  | _ => none }
def exchangeHoldsTrueTimeRow : OpenClaim := { program := "ytlfkkfdolnkjfaa", sum := "d50e613eca79915f6909c830b1427c640c0863973c7e2d903c15bc8e9bf8e784", func := "sectime/sectimelaw23.ExchangeHoldsTrueTime", spec := "exchangeHoldsTrueTime", named := ["math/bits.divideError", "math/bits.overflowError"], apart := false }
def ExchangeHoldsTrueTimeSaid : Prop := exchangeHoldsTrueTimeRow.holds Try.pinned (OpenSpec.ofChange exchangeHoldsTrueTimeSpec)

/-- ITS FALSE NEIGHBOUR: 'it returns false'. Refute it at one input. -/
def exchangeHoldsTrueTimeWrong : ChangeSpec := { name := "exchangeHoldsTrueTime", fn := fun _ => fun
  | [d1, d2, d3] => { results := [.lit (.bool false)], args := [d1, d2, d3] }
  | _ => none }
def ExchangeHoldsTrueTimeWrongFalsely : Prop := exchangeHoldsTrueTimeRow.holds Try.pinned (OpenSpec.ofChange exchangeHoldsTrueTimeWrong)

/-- 'sectimelaw11.IntervalLists': WHATEVER THE INPUT: true; the input reads as it did. -/
def intervalListsSpec : ChangeSpec := { name := "intervalLists", fn := fun _ => fun
  | [d] => { results := [.lit (.bool true)], args := [d] }
  | _ => none }
def intervalListsRow : OpenClaim := { program := "ytlfkkfdolnkjfaa", sum := "d50e613eca79915f6909c830b1427c640c0863973c7e2d903c15bc8e9bf8e784", func := "sectime/sectimelaw11.IntervalLists", spec := "intervalLists", unfollowed := true, recurses := true, apart := false }
def IntervalListsSaid : Prop := intervalListsRow.holds Try.pinned (OpenSpec.ofChange intervalListsSpec)

/-- ITS FALSE NEIGHBOUR: 'it returns false'. Refute it at one input. -/
def intervalListsWrong : ChangeSpec := { name := "intervalLists", fn := fun _ => fun
  | [d] => { results := [.lit (.bool false)], args := [d] }
  | _ => none }
def IntervalListsWrongFalsely : Prop := intervalListsRow.holds Try.pinned (OpenSpec.ofChange intervalListsWrong)

/-- 'sectimelaw34.SweepIgnoresOrder': WHATEVER THE INPUT: true; the input reads as it did. -/
def sweepIgnoresOrderSpec : ChangeSpec := { name := "sweepIgnoresOrder", fn := fun _ => fun
  | [d1, d2, d3] => { results := [.lit (.bool true)], args := [d1, d2, d3] }
  | _ => none }
def sweepIgnoresOrderRow : OpenClaim := { program := "ytlfkkfdolnkjfaa", sum := "d50e613eca79915f6909c830b1427c640c0863973c7e2d903c15bc8e9bf8e784", func := "sectime/sectimelaw34.SweepIgnoresOrder", spec := "sweepIgnoresOrder", unfollowed := true, recurses := true, apart := false }
def SweepIgnoresOrderSaid : Prop := sweepIgnoresOrderRow.holds Try.pinned (OpenSpec.ofChange sweepIgnoresOrderSpec)

/-- ITS FALSE NEIGHBOUR: 'it returns false'. Refute it at one input. -/
def sweepIgnoresOrderWrong : ChangeSpec := { name := "sweepIgnoresOrder", fn := fun _ => fun
  | [d1, d2, d3] => { results := [.lit (.bool false)], args := [d1, d2, d3] }
  | _ => none }
def SweepIgnoresOrderWrongFalsely : Prop := sweepIgnoresOrderRow.holds Try.pinned (OpenSpec.ofChange sweepIgnoresOrderWrong)

/-- 'sectimelaw34.SweepLeastNests': WHATEVER THE INPUT: true; the input reads as it did. -/
def sweepLeastNestsSpec : ChangeSpec := { name := "sweepLeastNests", fn := fun _ => fun
  | [d1, d2] => { results := [.lit (.bool true)], args := [d1, d2] }
  | _ => none }
def sweepLeastNestsRow : OpenClaim := { program := "ytlfkkfdolnkjfaa", sum := "d50e613eca79915f6909c830b1427c640c0863973c7e2d903c15bc8e9bf8e784", func := "sectime/sectimelaw34.SweepLeastNests", spec := "sweepLeastNests", unfollowed := true, recurses := true, apart := false }
def SweepLeastNestsSaid : Prop := sweepLeastNestsRow.holds Try.pinned (OpenSpec.ofChange sweepLeastNestsSpec)

/-- ITS FALSE NEIGHBOUR: 'it returns false'. Refute it at one input. -/
def sweepLeastNestsWrong : ChangeSpec := { name := "sweepLeastNests", fn := fun _ => fun
  | [d1, d2] => { results := [.lit (.bool false)], args := [d1, d2] }
  | _ => none }
def SweepLeastNestsWrongFalsely : Prop := sweepLeastNestsRow.holds Try.pinned (OpenSpec.ofChange sweepLeastNestsWrong)

/-- 'sectimelaw34.SweepProfileCountsInstants': WHATEVER THE INPUT: true; the input reads as it did. -/
def sweepProfileCountsInstantsSpec : ChangeSpec := { name := "sweepProfileCountsInstants", fn := fun _ => fun
  | [d] => { results := [.lit (.bool true)], args := [d] }
  | _ => none }
def sweepProfileCountsInstantsRow : OpenClaim := { program := "ytlfkkfdolnkjfaa", sum := "d50e613eca79915f6909c830b1427c640c0863973c7e2d903c15bc8e9bf8e784", func := "sectime/sectimelaw34.SweepProfileCountsInstants", spec := "sweepProfileCountsInstants", unfollowed := true, recurses := true, apart := false }
def SweepProfileCountsInstantsSaid : Prop := sweepProfileCountsInstantsRow.holds Try.pinned (OpenSpec.ofChange sweepProfileCountsInstantsSpec)

/-- ITS FALSE NEIGHBOUR: 'it returns false'. Refute it at one input. -/
def sweepProfileCountsInstantsWrong : ChangeSpec := { name := "sweepProfileCountsInstants", fn := fun _ => fun
  | [d] => { results := [.lit (.bool false)], args := [d] }
  | _ => none }
def SweepProfileCountsInstantsWrongFalsely : Prop := sweepProfileCountsInstantsRow.holds Try.pinned (OpenSpec.ofChange sweepProfileCountsInstantsWrong)

/-- 'sectimelaw34.SweepCounts': WHATEVER THE INPUT: true; the input reads as it did. -/
def sweepCountsSpec : ChangeSpec := { name := "sweepCounts", fn := fun _ => fun
  | [d1, d2, d3, d4] => { results := [.lit (.bool true)], args := [d1, d2, d3, d4] }
  | _ => none }
def sweepCountsRow : OpenClaim := { program := "ytlfkkfdolnkjfaa", sum := "d50e613eca79915f6909c830b1427c640c0863973c7e2d903c15bc8e9bf8e784", func := "sectime/sectimelaw34.SweepCounts", spec := "sweepCounts", unfollowed := true, recurses := true, apart := false }
def SweepCountsSaid : Prop := sweepCountsRow.holds Try.pinned (OpenSpec.ofChange sweepCountsSpec)

/-- ITS FALSE NEIGHBOUR: 'it returns false'. Refute it at one input. -/
def sweepCountsWrong : ChangeSpec := { name := "sweepCounts", fn := fun _ => fun
  | [d1, d2, d3, d4] => { results := [.lit (.bool false)], args := [d1, d2, d3, d4] }
  | _ => none }
def SweepCountsWrongFalsely : Prop := sweepCountsRow.holds Try.pinned (OpenSpec.ofChange sweepCountsWrong)

/-- 'sectimelaw34.SweepHasALimit': WHATEVER THE INPUT: true; the input reads as it did. -/
def sweepHasALimitSpec : ChangeSpec := { name := "sweepHasALimit", fn := fun _ => fun
  | [d] => { results := [.lit (.bool true)], args := [d] }
  | _ => none }
def sweepHasALimitRow : OpenClaim := { program := "ytlfkkfdolnkjfaa", sum := "d50e613eca79915f6909c830b1427c640c0863973c7e2d903c15bc8e9bf8e784", func := "sectime/sectimelaw34.SweepHasALimit", spec := "sweepHasALimit", unfollowed := true, recurses := true, apart := false }
def SweepHasALimitSaid : Prop := sweepHasALimitRow.holds Try.pinned (OpenSpec.ofChange sweepHasALimitSpec)

/-- ITS FALSE NEIGHBOUR: 'it returns false'. Refute it at one input. -/
def sweepHasALimitWrong : ChangeSpec := { name := "sweepHasALimit", fn := fun _ => fun
  | [d] => { results := [.lit (.bool false)], args := [d] }
  | _ => none }
def SweepHasALimitWrongFalsely : Prop := sweepHasALimitRow.holds Try.pinned (OpenSpec.ofChange sweepHasALimitWrong)

/-- 'sectimelaw37.CertifiedLearns': WHATEVER THE INPUT: true; the input reads as it did. -/
def certifiedLearnsSpec : ChangeSpec := { name := "certifiedLearns", fn := fun _ => fun
  | [d1, d2, d3] => { results := [.lit (.bool true)], args := [d1, d2, d3] }
  | _ => none }
def certifiedLearnsRow : OpenClaim := { program := "ytlfkkfdolnkjfaa", sum := "d50e613eca79915f6909c830b1427c640c0863973c7e2d903c15bc8e9bf8e784", func := "sectime/sectimelaw37.CertifiedLearns", spec := "certifiedLearns", unfollowed := true, recurses := true, named := ["math/bits.divideError", "math/bits.overflowError"], apart := false }
def CertifiedLearnsSaid : Prop := certifiedLearnsRow.holds Try.pinned (OpenSpec.ofChange certifiedLearnsSpec)

/-- ITS FALSE NEIGHBOUR: 'it returns false'. Refute it at one input. -/
def certifiedLearnsWrong : ChangeSpec := { name := "certifiedLearns", fn := fun _ => fun
  | [d1, d2, d3] => { results := [.lit (.bool false)], args := [d1, d2, d3] }
  | _ => none }
def CertifiedLearnsWrongFalsely : Prop := certifiedLearnsRow.holds Try.pinned (OpenSpec.ofChange certifiedLearnsWrong)

/-- 'sectimelaw37.CertifiedMergesTruth': WHATEVER THE INPUT: true; the input reads as it did. -/
def certifiedMergesTruthSpec : ChangeSpec := { name := "certifiedMergesTruth", fn := fun _ => fun
  | [d] => { results := [.lit (.bool true)], args := [d] }
  | _ => none }
def certifiedMergesTruthRow : OpenClaim := { program := "ytlfkkfdolnkjfaa", sum := "d50e613eca79915f6909c830b1427c640c0863973c7e2d903c15bc8e9bf8e784", func := "sectime/sectimelaw37.CertifiedMergesTruth", spec := "certifiedMergesTruth", unfollowed := true, recurses := true, named := ["math/bits.divideError", "math/bits.overflowError"], apart := false }
def CertifiedMergesTruthSaid : Prop := certifiedMergesTruthRow.holds Try.pinned (OpenSpec.ofChange certifiedMergesTruthSpec)

/-- ITS FALSE NEIGHBOUR: 'it returns false'. Refute it at one input. -/
def certifiedMergesTruthWrong : ChangeSpec := { name := "certifiedMergesTruth", fn := fun _ => fun
  | [d] => { results := [.lit (.bool false)], args := [d] }
  | _ => none }
def CertifiedMergesTruthWrongFalsely : Prop := certifiedMergesTruthRow.holds Try.pinned (OpenSpec.ofChange certifiedMergesTruthWrong)

/-- 'sectimelaw36.PoolEstimates': WHATEVER THE INPUT: true; the input reads as it did. -/
def poolEstimatesSpec : ChangeSpec := { name := "poolEstimates", fn := fun _ => fun
  | [d1, d2, d3, d4, d5] => { results := [.lit (.bool true)], args := [d1, d2, d3, d4, d5] }
  | _ => none }
def poolEstimatesRow : OpenClaim := { program := "ytlfkkfdolnkjfaa", sum := "d50e613eca79915f6909c830b1427c640c0863973c7e2d903c15bc8e9bf8e784", func := "sectime/sectimelaw36.PoolEstimates", spec := "poolEstimates", unfollowed := true, recurses := true, apart := false }
def PoolEstimatesSaid : Prop := poolEstimatesRow.holds Try.pinned (OpenSpec.ofChange poolEstimatesSpec)

/-- ITS FALSE NEIGHBOUR: 'it returns false'. Refute it at one input. -/
def poolEstimatesWrong : ChangeSpec := { name := "poolEstimates", fn := fun _ => fun
  | [d1, d2, d3, d4, d5] => { results := [.lit (.bool false)], args := [d1, d2, d3, d4, d5] }
  | _ => none }
def PoolEstimatesWrongFalsely : Prop := poolEstimatesRow.holds Try.pinned (OpenSpec.ofChange poolEstimatesWrong)

/-- 'sectimelaw36.PoolBoundsInfluence': WHATEVER THE INPUT: true; the input reads as it did. -/
def poolBoundsInfluenceSpec : ChangeSpec := { name := "poolBoundsInfluence", fn := fun _ => fun
  | [d1, d2, d3] => { results := [.lit (.bool true)], args := [d1, d2, d3] }
  | _ => none }
def poolBoundsInfluenceRow : OpenClaim := { program := "ytlfkkfdolnkjfaa", sum := "d50e613eca79915f6909c830b1427c640c0863973c7e2d903c15bc8e9bf8e784", func := "sectime/sectimelaw36.PoolBoundsInfluence", spec := "poolBoundsInfluence", unfollowed := true, recurses := true, apart := false }
def PoolBoundsInfluenceSaid : Prop := poolBoundsInfluenceRow.holds Try.pinned (OpenSpec.ofChange poolBoundsInfluenceSpec)

/-- ITS FALSE NEIGHBOUR: 'it returns false'. Refute it at one input. -/
def poolBoundsInfluenceWrong : ChangeSpec := { name := "poolBoundsInfluence", fn := fun _ => fun
  | [d1, d2, d3] => { results := [.lit (.bool false)], args := [d1, d2, d3] }
  | _ => none }
def PoolBoundsInfluenceWrongFalsely : Prop := poolBoundsInfluenceRow.holds Try.pinned (OpenSpec.ofChange poolBoundsInfluenceWrong)

/- THE SECOND FORM. 'bulk': how many values and letters a reading holds, each counted each time it is reached (what is shared counts as often as it is met; a slice's spare places count too). A statement '..UptoSaid' is the law's where the arguments, and the package variables that the reading takes, are together of bulk at most 1048576: NARROWER than '..Said'. Prove '..Said' where nothing that the law and all that it calls make is longer than what came in: it says more and counts as full. Else prove '..UptoSaid'. A law counts once. -/
mutual
def uptoBulk {H : Type} : DataW H → Nat
  | .lit (.string bytes) => bytes.length + 1
  | .lit _ => 1
  | .nil => 1
  | .ptr d => uptoBulk d + 1
  | .slice elems spare => uptoBulkAll elems + uptoBulkAll spare + 1
  | .agg parts => uptoBulkAll parts + 1
  | .iface _ d => uptoBulk d + 1
  | .map entries => uptoBulkEntries entries + 1
  | .held _ => 1
def uptoBulkAll {H : Type} : List (DataW H) → Nat
  | [] => 0
  | d :: r => uptoBulk d + uptoBulkAll r
def uptoBulkEntries {H : Type} : List (Lit × DataW H) → Nat
  | [] => 0
  | x :: r => uptoBulkEntry x + uptoBulkEntries r
def uptoBulkEntry {H : Type} : Lit × DataW H → Nat
  | (.string bytes, d) => bytes.length + uptoBulk d + 1
  | (_, d) => uptoBulk d + 1
 end
def uptoSmall : (H : Type) → List (DataW H) → Bool := fun _ ds => decide (uptoBulkAll ds ≤ 1048576)
def OpenSpec.upto (s : _root_.Go.ChangeSpec) : _root_.Go.OpenSpec := { _root_.Go.OpenSpec.ofChange s with cond := some uptoSmall }

/-- 'sectimelaw23.ExchangeHoldsTrueTime', WHERE WHAT IT READS IS OF BULK AT MOST 1048576: true; the input reads as it did. -/
def exchangeHoldsTrueTimeUptoRow : OpenClaim := { program := "ytlfkkfdolnkjfaa", sum := "d50e613eca79915f6909c830b1427c640c0863973c7e2d903c15bc8e9bf8e784", func := "sectime/sectimelaw23.ExchangeHoldsTrueTime", spec := "exchangeHoldsTrueTime", named := ["math/bits.divideError", "math/bits.overflowError"], apart := false, narrowed := true }
def ExchangeHoldsTrueTimeUptoSaid : Prop := exchangeHoldsTrueTimeUptoRow.holds Try.pinned (OpenSpec.upto exchangeHoldsTrueTimeSpec)

/-- 'sectimelaw11.IntervalLists', WHERE WHAT IT READS IS OF BULK AT MOST 1048576: true; the input reads as it did. -/
def intervalListsUptoRow : OpenClaim := { program := "ytlfkkfdolnkjfaa", sum := "d50e613eca79915f6909c830b1427c640c0863973c7e2d903c15bc8e9bf8e784", func := "sectime/sectimelaw11.IntervalLists", spec := "intervalLists", unfollowed := true, recurses := true, apart := false, narrowed := true }
def IntervalListsUptoSaid : Prop := intervalListsUptoRow.holds Try.pinned (OpenSpec.upto intervalListsSpec)

/-- 'sectimelaw34.SweepIgnoresOrder', WHERE WHAT IT READS IS OF BULK AT MOST 1048576: true; the input reads as it did. -/
def sweepIgnoresOrderUptoRow : OpenClaim := { program := "ytlfkkfdolnkjfaa", sum := "d50e613eca79915f6909c830b1427c640c0863973c7e2d903c15bc8e9bf8e784", func := "sectime/sectimelaw34.SweepIgnoresOrder", spec := "sweepIgnoresOrder", unfollowed := true, recurses := true, apart := false, narrowed := true }
def SweepIgnoresOrderUptoSaid : Prop := sweepIgnoresOrderUptoRow.holds Try.pinned (OpenSpec.upto sweepIgnoresOrderSpec)

/-- 'sectimelaw34.SweepLeastNests', WHERE WHAT IT READS IS OF BULK AT MOST 1048576: true; the input reads as it did. -/
def sweepLeastNestsUptoRow : OpenClaim := { program := "ytlfkkfdolnkjfaa", sum := "d50e613eca79915f6909c830b1427c640c0863973c7e2d903c15bc8e9bf8e784", func := "sectime/sectimelaw34.SweepLeastNests", spec := "sweepLeastNests", unfollowed := true, recurses := true, apart := false, narrowed := true }
def SweepLeastNestsUptoSaid : Prop := sweepLeastNestsUptoRow.holds Try.pinned (OpenSpec.upto sweepLeastNestsSpec)

/-- 'sectimelaw34.SweepProfileCountsInstants', WHERE WHAT IT READS IS OF BULK AT MOST 1048576: true; the input reads as it did. -/
def sweepProfileCountsInstantsUptoRow : OpenClaim := { program := "ytlfkkfdolnkjfaa", sum := "d50e613eca79915f6909c830b1427c640c0863973c7e2d903c15bc8e9bf8e784", func := "sectime/sectimelaw34.SweepProfileCountsInstants", spec := "sweepProfileCountsInstants", unfollowed := true, recurses := true, apart := false, narrowed := true }
def SweepProfileCountsInstantsUptoSaid : Prop := sweepProfileCountsInstantsUptoRow.holds Try.pinned (OpenSpec.upto sweepProfileCountsInstantsSpec)

/-- 'sectimelaw34.SweepCounts', WHERE WHAT IT READS IS OF BULK AT MOST 1048576: true; the input reads as it did. -/
def sweepCountsUptoRow : OpenClaim := { program := "ytlfkkfdolnkjfaa", sum := "d50e613eca79915f6909c830b1427c640c0863973c7e2d903c15bc8e9bf8e784", func := "sectime/sectimelaw34.SweepCounts", spec := "sweepCounts", unfollowed := true, recurses := true, apart := false, narrowed := true }
def SweepCountsUptoSaid : Prop := sweepCountsUptoRow.holds Try.pinned (OpenSpec.upto sweepCountsSpec)

/-- 'sectimelaw34.SweepHasALimit', WHERE WHAT IT READS IS OF BULK AT MOST 1048576: true; the input reads as it did. -/
def sweepHasALimitUptoRow : OpenClaim := { program := "ytlfkkfdolnkjfaa", sum := "d50e613eca79915f6909c830b1427c640c0863973c7e2d903c15bc8e9bf8e784", func := "sectime/sectimelaw34.SweepHasALimit", spec := "sweepHasALimit", unfollowed := true, recurses := true, apart := false, narrowed := true }
def SweepHasALimitUptoSaid : Prop := sweepHasALimitUptoRow.holds Try.pinned (OpenSpec.upto sweepHasALimitSpec)

/-- 'sectimelaw37.CertifiedLearns', WHERE WHAT IT READS IS OF BULK AT MOST 1048576: true; the input reads as it did. -/
def certifiedLearnsUptoRow : OpenClaim := { program := "ytlfkkfdolnkjfaa", sum := "d50e613eca79915f6909c830b1427c640c0863973c7e2d903c15bc8e9bf8e784", func := "sectime/sectimelaw37.CertifiedLearns", spec := "certifiedLearns", unfollowed := true, recurses := true, named := ["math/bits.divideError", "math/bits.overflowError"], apart := false, narrowed := true }
def CertifiedLearnsUptoSaid : Prop := certifiedLearnsUptoRow.holds Try.pinned (OpenSpec.upto certifiedLearnsSpec)

/-- 'sectimelaw37.CertifiedMergesTruth', WHERE WHAT IT READS IS OF BULK AT MOST 1048576: true; the input reads as it did. -/
def certifiedMergesTruthUptoRow : OpenClaim := { program := "ytlfkkfdolnkjfaa", sum := "d50e613eca79915f6909c830b1427c640c0863973c7e2d903c15bc8e9bf8e784", func := "sectime/sectimelaw37.CertifiedMergesTruth", spec := "certifiedMergesTruth", unfollowed := true, recurses := true, named := ["math/bits.divideError", "math/bits.overflowError"], apart := false, narrowed := true }
def CertifiedMergesTruthUptoSaid : Prop := certifiedMergesTruthUptoRow.holds Try.pinned (OpenSpec.upto certifiedMergesTruthSpec)

/-- 'sectimelaw36.PoolEstimates', WHERE WHAT IT READS IS OF BULK AT MOST 1048576: true; the input reads as it did. -/
def poolEstimatesUptoRow : OpenClaim := { program := "ytlfkkfdolnkjfaa", sum := "d50e613eca79915f6909c830b1427c640c0863973c7e2d903c15bc8e9bf8e784", func := "sectime/sectimelaw36.PoolEstimates", spec := "poolEstimates", unfollowed := true, recurses := true, apart := false, narrowed := true }
def PoolEstimatesUptoSaid : Prop := poolEstimatesUptoRow.holds Try.pinned (OpenSpec.upto poolEstimatesSpec)

/-- 'sectimelaw36.PoolBoundsInfluence', WHERE WHAT IT READS IS OF BULK AT MOST 1048576: true; the input reads as it did. -/
def poolBoundsInfluenceUptoRow : OpenClaim := { program := "ytlfkkfdolnkjfaa", sum := "d50e613eca79915f6909c830b1427c640c0863973c7e2d903c15bc8e9bf8e784", func := "sectime/sectimelaw36.PoolBoundsInfluence", spec := "poolBoundsInfluence", unfollowed := true, recurses := true, apart := false, narrowed := true }
def PoolBoundsInfluenceUptoSaid : Prop := poolBoundsInfluenceUptoRow.holds Try.pinned (OpenSpec.upto poolBoundsInfluenceSpec)

end Rows
end Go.Proofs.Ytlfkkfdolnkjfaa
