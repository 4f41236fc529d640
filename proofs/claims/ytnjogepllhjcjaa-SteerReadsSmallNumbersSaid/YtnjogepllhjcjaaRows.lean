/-
  No cell of these rows narrows 'for every input' (looked for: loops, veiled, ifaces, maps, wideKeys, modest, calm, conditions, laid).
  DERIVED. THE GIVEN ROWS OF THIS SEAT. 9 by the template 'for every input the law returns true; each argument reads behind the call as it read before'; 0 by the template 'total and deterministic' (their statements: YtnjogepllhjcjaaTotals.lean).
  GIVEN WITH THE SEED: the statements are not yours to turn. If you find one false, say at which input.
  Laid BY PROGRAM, IN A SANDBOX (cutbox-rows.mjs): the forced cells as the released guide's own fill.sh prints them over the translation 3088d6837e9e342a… (all of the seat's roots in one cut). By AI agents, Wed Nov 11 2026. No macro, syntax, notation, axiom, sorry.
-/
import Derived.Test.YtnjogepllhjcjaaChecked
import GoSem.Claim
import GoSem.ClaimJoined
import GoSem.ClaimMapViews
import Derived.JoinedTies
import Derived.KernelRfl
namespace Go.Proofs.Ytnjogepllhjcjaa
/- THE CELL 'sum', in the pinned program and in every row, IS THE sha256 OF THE DUMP (.gsa) THAT YtnjogepllhjcjaaProg.lean LOADS. Nothing in Lean hashes anything: it is a label: what it is worth is what the hold of that sum in a sandbox is worth. -/
noncomputable def Try.pinned : Pinned := { name := "ytnjogepllhjcjaa", sum := "3088d6837e9e342ac24d8732117b6e1bb5853523ac2fe0b7715a53e59ea98a81", checked := Try.checked }
namespace Rows
def none {H : Type} : Left H := { results := [], args := [] }

/-- 'sectimelaw36.PoolCounts': WHATEVER THE INPUT: true; the input reads as it did. -/
def poolCountsSpec : ChangeSpec := { name := "poolCounts", fn := fun _ => fun
  | [d1, d2, d3, d4] => { results := [.lit (.bool true)], args := [d1, d2, d3, d4] }
  | _ => none }
def poolCountsRow : OpenClaim := { program := "ytnjogepllhjcjaa", sum := "3088d6837e9e342ac24d8732117b6e1bb5853523ac2fe0b7715a53e59ea98a81", func := "sectime/sectimelaw36.PoolCounts", spec := "poolCounts", apart := false }
def PoolCountsSaid : Prop := poolCountsRow.holds Try.pinned (OpenSpec.ofChange poolCountsSpec)

/-- ITS FALSE NEIGHBOUR: 'it returns false'. Refute it at one input. -/
def poolCountsWrong : ChangeSpec := { name := "poolCounts", fn := fun _ => fun
  | [d1, d2, d3, d4] => { results := [.lit (.bool false)], args := [d1, d2, d3, d4] }
  | _ => none }
def PoolCountsWrongFalsely : Prop := poolCountsRow.holds Try.pinned (OpenSpec.ofChange poolCountsWrong)

/-- 'sectimelaw36.PoolCountsSamples': WHATEVER THE INPUT: true; the input reads as it did. -/
def poolCountsSamplesSpec : ChangeSpec := { name := "poolCountsSamples", fn := fun _ => fun
  | [d1, d2, d3, d4] => { results := [.lit (.bool true)], args := [d1, d2, d3, d4] }
  | _ => none }
def poolCountsSamplesRow : OpenClaim := { program := "ytnjogepllhjcjaa", sum := "3088d6837e9e342ac24d8732117b6e1bb5853523ac2fe0b7715a53e59ea98a81", func := "sectime/sectimelaw36.PoolCountsSamples", spec := "poolCountsSamples", apart := false }
def PoolCountsSamplesSaid : Prop := poolCountsSamplesRow.holds Try.pinned (OpenSpec.ofChange poolCountsSamplesSpec)

/-- ITS FALSE NEIGHBOUR: 'it returns false'. Refute it at one input. -/
def poolCountsSamplesWrong : ChangeSpec := { name := "poolCountsSamples", fn := fun _ => fun
  | [d1, d2, d3, d4] => { results := [.lit (.bool false)], args := [d1, d2, d3, d4] }
  | _ => none }
def PoolCountsSamplesWrongFalsely : Prop := poolCountsSamplesRow.holds Try.pinned (OpenSpec.ofChange poolCountsSamplesWrong)

/-- 'sectimelaw38.SteerReads': WHATEVER THE INPUT: true; the input reads as it did. -/
def steerReadsSpec : ChangeSpec := { name := "steerReads", fn := fun _ => fun
  | [d1, d2, d3, d4] => { results := [.lit (.bool true)], args := [d1, d2, d3, d4] }
  | _ => none }
def steerReadsRow : OpenClaim := { program := "ytnjogepllhjcjaa", sum := "3088d6837e9e342ac24d8732117b6e1bb5853523ac2fe0b7715a53e59ea98a81", func := "sectime/sectimelaw38.SteerReads", spec := "steerReads", named := ["math/bits.divideError", "math/bits.overflowError"], apart := false }
def SteerReadsSaid : Prop := steerReadsRow.holds Try.pinned (OpenSpec.ofChange steerReadsSpec)

/-- ITS FALSE NEIGHBOUR: 'it returns false'. Refute it at one input. -/
def steerReadsWrong : ChangeSpec := { name := "steerReads", fn := fun _ => fun
  | [d1, d2, d3, d4] => { results := [.lit (.bool false)], args := [d1, d2, d3, d4] }
  | _ => none }
def SteerReadsWrongFalsely : Prop := steerReadsRow.holds Try.pinned (OpenSpec.ofChange steerReadsWrong)

/-- 'sectimelaw38.SteerReadsSmallNumbers': WHATEVER THE INPUT: true; the input reads as it did. -/
def steerReadsSmallNumbersSpec : ChangeSpec := { name := "steerReadsSmallNumbers", fn := fun _ => fun
  | [d] => { results := [.lit (.bool true)], args := [d] }
  | _ => none }
def steerReadsSmallNumbersRow : OpenClaim := { program := "ytnjogepllhjcjaa", sum := "3088d6837e9e342ac24d8732117b6e1bb5853523ac2fe0b7715a53e59ea98a81", func := "sectime/sectimelaw38.SteerReadsSmallNumbers", spec := "steerReadsSmallNumbers", named := ["math/bits.divideError", "math/bits.overflowError"], apart := false }
def SteerReadsSmallNumbersSaid : Prop := steerReadsSmallNumbersRow.holds Try.pinned (OpenSpec.ofChange steerReadsSmallNumbersSpec)

/-- ITS FALSE NEIGHBOUR: 'it returns false'. Refute it at one input. -/
def steerReadsSmallNumbersWrong : ChangeSpec := { name := "steerReadsSmallNumbers", fn := fun _ => fun
  | [d] => { results := [.lit (.bool false)], args := [d] }
  | _ => none }
def SteerReadsSmallNumbersWrongFalsely : Prop := steerReadsSmallNumbersRow.holds Try.pinned (OpenSpec.ofChange steerReadsSmallNumbersWrong)

/-- 'sectimelaw38.SteerNeverRunsBack': WHATEVER THE INPUT: true; the input reads as it did. -/
def steerNeverRunsBackSpec : ChangeSpec := { name := "steerNeverRunsBack", fn := fun _ => fun
  | [d1, d2] => { results := [.lit (.bool true)], args := [d1, d2] }
  | _ => none }
def steerNeverRunsBackRow : OpenClaim := { program := "ytnjogepllhjcjaa", sum := "3088d6837e9e342ac24d8732117b6e1bb5853523ac2fe0b7715a53e59ea98a81", func := "sectime/sectimelaw38.SteerNeverRunsBack", spec := "steerNeverRunsBack", named := ["math/bits.divideError", "math/bits.overflowError"], apart := false }
def SteerNeverRunsBackSaid : Prop := steerNeverRunsBackRow.holds Try.pinned (OpenSpec.ofChange steerNeverRunsBackSpec)

/-- ITS FALSE NEIGHBOUR: 'it returns false'. Refute it at one input. -/
def steerNeverRunsBackWrong : ChangeSpec := { name := "steerNeverRunsBack", fn := fun _ => fun
  | [d1, d2] => { results := [.lit (.bool false)], args := [d1, d2] }
  | _ => none }
def SteerNeverRunsBackWrongFalsely : Prop := steerNeverRunsBackRow.holds Try.pinned (OpenSpec.ofChange steerNeverRunsBackWrong)

/-- 'sectimelaw38.SteerKeepsItsRate': WHATEVER THE INPUT: true; the input reads as it did. -/
def steerKeepsItsRateSpec : ChangeSpec := { name := "steerKeepsItsRate", fn := fun _ => fun
  | [d1, d2, d3] => { results := [.lit (.bool true)], args := [d1, d2, d3] }
  | _ => none }
def steerKeepsItsRateRow : OpenClaim := { program := "ytnjogepllhjcjaa", sum := "3088d6837e9e342ac24d8732117b6e1bb5853523ac2fe0b7715a53e59ea98a81", func := "sectime/sectimelaw38.SteerKeepsItsRate", spec := "steerKeepsItsRate", named := ["math/bits.divideError", "math/bits.overflowError"], apart := false }
def SteerKeepsItsRateSaid : Prop := steerKeepsItsRateRow.holds Try.pinned (OpenSpec.ofChange steerKeepsItsRateSpec)

/-- ITS FALSE NEIGHBOUR: 'it returns false'. Refute it at one input. -/
def steerKeepsItsRateWrong : ChangeSpec := { name := "steerKeepsItsRate", fn := fun _ => fun
  | [d1, d2, d3] => { results := [.lit (.bool false)], args := [d1, d2, d3] }
  | _ => none }
def SteerKeepsItsRateWrongFalsely : Prop := steerKeepsItsRateRow.holds Try.pinned (OpenSpec.ofChange steerKeepsItsRateWrong)

/-- 'sectimelaw38.SteerWithAimZeroIsAlwaysInside': WHATEVER THE INPUT: true; the input reads as it did. -/
def steerWithAimZeroIsAlwaysInsideSpec : ChangeSpec := { name := "steerWithAimZeroIsAlwaysInside", fn := fun _ => fun
  | [d] => { results := [.lit (.bool true)], args := [d] }
  | _ => none }
def steerWithAimZeroIsAlwaysInsideRow : OpenClaim := { program := "ytnjogepllhjcjaa", sum := "3088d6837e9e342ac24d8732117b6e1bb5853523ac2fe0b7715a53e59ea98a81", func := "sectime/sectimelaw38.SteerWithAimZeroIsAlwaysInside", spec := "steerWithAimZeroIsAlwaysInside", named := ["math/bits.divideError", "math/bits.overflowError"], apart := false }
def SteerWithAimZeroIsAlwaysInsideSaid : Prop := steerWithAimZeroIsAlwaysInsideRow.holds Try.pinned (OpenSpec.ofChange steerWithAimZeroIsAlwaysInsideSpec)

/-- ITS FALSE NEIGHBOUR: 'it returns false'. Refute it at one input. -/
def steerWithAimZeroIsAlwaysInsideWrong : ChangeSpec := { name := "steerWithAimZeroIsAlwaysInside", fn := fun _ => fun
  | [d] => { results := [.lit (.bool false)], args := [d] }
  | _ => none }
def SteerWithAimZeroIsAlwaysInsideWrongFalsely : Prop := steerWithAimZeroIsAlwaysInsideRow.holds Try.pinned (OpenSpec.ofChange steerWithAimZeroIsAlwaysInsideWrong)

/-- 'sectimelaw23.ExchangeHoldsTrueTime': WHATEVER THE INPUT: true; the input reads as it did. -/
def exchangeHoldsTrueTimeSpec : ChangeSpec := { name := "exchangeHoldsTrueTime", fn := fun _ => fun
  | [d1, d2, d3] => { results := [.lit (.bool true)], args := [d1, d2, d3] }
  | _ => none }
def exchangeHoldsTrueTimeRow : OpenClaim := { program := "ytnjogepllhjcjaa", sum := "3088d6837e9e342ac24d8732117b6e1bb5853523ac2fe0b7715a53e59ea98a81", func := "sectime/sectimelaw23.ExchangeHoldsTrueTime", spec := "exchangeHoldsTrueTime", named := ["math/bits.divideError", "math/bits.overflowError"], apart := false }
def ExchangeHoldsTrueTimeSaid : Prop := exchangeHoldsTrueTimeRow.holds Try.pinned (OpenSpec.ofChange exchangeHoldsTrueTimeSpec)

/-- ITS FALSE NEIGHBOUR: 'it returns false'. Refute it at one input. -/
def exchangeHoldsTrueTimeWrong : ChangeSpec := { name := "exchangeHoldsTrueTime", fn := fun _ => fun
  | [d1, d2, d3] => { results := [.lit (.bool false)], args := [d1, d2, d3] }
  | _ => none }
def ExchangeHoldsTrueTimeWrongFalsely : Prop := exchangeHoldsTrueTimeRow.holds Try.pinned (OpenSpec.ofChange exchangeHoldsTrueTimeWrong)

/-- 'sectimelaw23.ExchangeWidens': WHATEVER THE INPUT: true; the input reads as it did. -/
def exchangeWidensSpec : ChangeSpec := { name := "exchangeWidens", fn := fun _ => fun
  | [d1, d2, d3, d4, d5] => { results := [.lit (.bool true)], args := [d1, d2, d3, d4, d5] }
  | _ => none }
def exchangeWidensRow : OpenClaim := { program := "ytnjogepllhjcjaa", sum := "3088d6837e9e342ac24d8732117b6e1bb5853523ac2fe0b7715a53e59ea98a81", func := "sectime/sectimelaw23.ExchangeWidens", spec := "exchangeWidens", named := ["math/bits.divideError", "math/bits.overflowError"], apart := false }
def ExchangeWidensSaid : Prop := exchangeWidensRow.holds Try.pinned (OpenSpec.ofChange exchangeWidensSpec)

/-- ITS FALSE NEIGHBOUR: 'it returns false'. Refute it at one input. -/
def exchangeWidensWrong : ChangeSpec := { name := "exchangeWidens", fn := fun _ => fun
  | [d1, d2, d3, d4, d5] => { results := [.lit (.bool false)], args := [d1, d2, d3, d4, d5] }
  | _ => none }
def ExchangeWidensWrongFalsely : Prop := exchangeWidensRow.holds Try.pinned (OpenSpec.ofChange exchangeWidensWrong)

/- THE SECOND FORM. 'bulk': how many values and letters a reading holds, each counted each time it is reached (what is shared counts as often as it is met; a slice's spare places count too). A statement '..UptoSaid' is the law's where the arguments, and the package variables that the reading takes, are together of bulk at most 1048576: NARROWER than '..Said'. Prove '..Said' where nothing that the law and all that it calls make is longer than what came in: it says more and counts as full. Else prove '..UptoSaid'. A law counts once. -/
mutual
def uptoBulk {H : Type} : DataW H → Nat
  | .lit (.string bytes) => bytes.length + 1
  | .lit _ => 1
  | .nil => 1
  | .ptr d => uptoBulk d + 1
  | .slice elems spare => uptoBulkAll elems + uptoBulkAll spare + 1
  | .agg parts => uptoBulkAll parts + 1
  | .iface _ d => uptoBulk d + 1
  | .map entries => uptoBulkEntries entries + 1
  | .held _ => 1
def uptoBulkAll {H : Type} : List (DataW H) → Nat
  | [] => 0
  | d :: r => uptoBulk d + uptoBulkAll r
def uptoBulkEntries {H : Type} : List (Lit × DataW H) → Nat
  | [] => 0
  | x :: r => uptoBulkEntry x + uptoBulkEntries r
def uptoBulkEntry {H : Type} : Lit × DataW H → Nat
  | (.string bytes, d) => bytes.length + uptoBulk d + 1
  | (_, d) => uptoBulk d + 1
 end
def uptoSmall : (H : Type) → List (DataW H) → Bool := fun _ ds => decide (uptoBulkAll ds ≤ 1048576)
def OpenSpec.upto (s : _root_.Go.ChangeSpec) : _root_.Go.OpenSpec := { _root_.Go.OpenSpec.ofChange s with cond := some uptoSmall }

/-- 'sectimelaw36.PoolCounts', WHERE WHAT IT READS IS OF BULK AT MOST 1048576: true; the input reads as it did. -/
def poolCountsUptoRow : OpenClaim := { program := "ytnjogepllhjcjaa", sum := "3088d6837e9e342ac24d8732117b6e1bb5853523ac2fe0b7715a53e59ea98a81", func := "sectime/sectimelaw36.PoolCounts", spec := "poolCounts", apart := false, narrowed := true }
def PoolCountsUptoSaid : Prop := poolCountsUptoRow.holds Try.pinned (OpenSpec.upto poolCountsSpec)

/-- 'sectimelaw36.PoolCountsSamples', WHERE WHAT IT READS IS OF BULK AT MOST 1048576: true; the input reads as it did. -/
def poolCountsSamplesUptoRow : OpenClaim := { program := "ytnjogepllhjcjaa", sum := "3088d6837e9e342ac24d8732117b6e1bb5853523ac2fe0b7715a53e59ea98a81", func := "sectime/sectimelaw36.PoolCountsSamples", spec := "poolCountsSamples", apart := false, narrowed := true }
def PoolCountsSamplesUptoSaid : Prop := poolCountsSamplesUptoRow.holds Try.pinned (OpenSpec.upto poolCountsSamplesSpec)

/-- 'sectimelaw38.SteerReads', WHERE WHAT IT READS IS OF BULK AT MOST 1048576: true; the input reads as it did. -/
def steerReadsUptoRow : OpenClaim := { program := "ytnjogepllhjcjaa", sum := "3088d6837e9e342ac24d8732117b6e1bb5853523ac2fe0b7715a53e59ea98a81", func := "sectime/sectimelaw38.SteerReads", spec := "steerReads", named := ["math/bits.divideError", "math/bits.overflowError"], apart := false, narrowed := true }
def SteerReadsUptoSaid : Prop := steerReadsUptoRow.holds Try.pinned (OpenSpec.upto steerReadsSpec)

/-- 'sectimelaw38.SteerReadsSmallNumbers', WHERE WHAT IT READS IS OF BULK AT MOST 1048576: true; the input reads as it did. -/
def steerReadsSmallNumbersUptoRow : OpenClaim := { program := "ytnjogepllhjcjaa", sum := "3088d6837e9e342ac24d8732117b6e1bb5853523ac2fe0b7715a53e59ea98a81", func := "sectime/sectimelaw38.SteerReadsSmallNumbers", spec := "steerReadsSmallNumbers", named := ["math/bits.divideError", "math/bits.overflowError"], apart := false, narrowed := true }
def SteerReadsSmallNumbersUptoSaid : Prop := steerReadsSmallNumbersUptoRow.holds Try.pinned (OpenSpec.upto steerReadsSmallNumbersSpec)

/-- 'sectimelaw38.SteerNeverRunsBack', WHERE WHAT IT READS IS OF BULK AT MOST 1048576: true; the input reads as it did. -/
def steerNeverRunsBackUptoRow : OpenClaim := { program := "ytnjogepllhjcjaa", sum := "3088d6837e9e342ac24d8732117b6e1bb5853523ac2fe0b7715a53e59ea98a81", func := "sectime/sectimelaw38.SteerNeverRunsBack", spec := "steerNeverRunsBack", named := ["math/bits.divideError", "math/bits.overflowError"], apart := false, narrowed := true }
def SteerNeverRunsBackUptoSaid : Prop := steerNeverRunsBackUptoRow.holds Try.pinned (OpenSpec.upto steerNeverRunsBackSpec)

/-- 'sectimelaw38.SteerKeepsItsRate', WHERE WHAT IT READS IS OF BULK AT MOST 1048576: true; the input reads as it did. -/
def steerKeepsItsRateUptoRow : OpenClaim := { program := "ytnjogepllhjcjaa", sum := "3088d6837e9e342ac24d8732117b6e1bb5853523ac2fe0b7715a53e59ea98a81", func := "sectime/sectimelaw38.SteerKeepsItsRate", spec := "steerKeepsItsRate", named := ["math/bits.divideError", "math/bits.overflowError"], apart := false, narrowed := true }
def SteerKeepsItsRateUptoSaid : Prop := steerKeepsItsRateUptoRow.holds Try.pinned (OpenSpec.upto steerKeepsItsRateSpec)

/-- 'sectimelaw38.SteerWithAimZeroIsAlwaysInside', WHERE WHAT IT READS IS OF BULK AT MOST 1048576: true; the input reads as it did. -/
def steerWithAimZeroIsAlwaysInsideUptoRow : OpenClaim := { program := "ytnjogepllhjcjaa", sum := "3088d6837e9e342ac24d8732117b6e1bb5853523ac2fe0b7715a53e59ea98a81", func := "sectime/sectimelaw38.SteerWithAimZeroIsAlwaysInside", spec := "steerWithAimZeroIsAlwaysInside", named := ["math/bits.divideError", "math/bits.overflowError"], apart := false, narrowed := true }
def SteerWithAimZeroIsAlwaysInsideUptoSaid : Prop := steerWithAimZeroIsAlwaysInsideUptoRow.holds Try.pinned (OpenSpec.upto steerWithAimZeroIsAlwaysInsideSpec)

/-- 'sectimelaw23.ExchangeHoldsTrueTime', WHERE WHAT IT READS IS OF BULK AT MOST 1048576: true; the input reads as it did. -/
def exchangeHoldsTrueTimeUptoRow : OpenClaim := { program := "ytnjogepllhjcjaa", sum := "3088d6837e9e342ac24d8732117b6e1bb5853523ac2fe0b7715a53e59ea98a81", func := "sectime/sectimelaw23.ExchangeHoldsTrueTime", spec := "exchangeHoldsTrueTime", named := ["math/bits.divideError", "math/bits.overflowError"], apart := false, narrowed := true }
def ExchangeHoldsTrueTimeUptoSaid : Prop := exchangeHoldsTrueTimeUptoRow.holds Try.pinned (OpenSpec.upto exchangeHoldsTrueTimeSpec)

/-- 'sectimelaw23.ExchangeWidens', WHERE WHAT IT READS IS OF BULK AT MOST 1048576: true; the input reads as it did. -/
def exchangeWidensUptoRow : OpenClaim := { program := "ytnjogepllhjcjaa", sum := "3088d6837e9e342ac24d8732117b6e1bb5853523ac2fe0b7715a53e59ea98a81", func := "sectime/sectimelaw23.ExchangeWidens", spec := "exchangeWidens", named := ["math/bits.divideError", "math/bits.overflowError"], apart := false, narrowed := true }
def ExchangeWidensUptoSaid : Prop := exchangeWidensUptoRow.holds Try.pinned (OpenSpec.upto exchangeWidensSpec)

end Rows
end Go.Proofs.Ytnjogepllhjcjaa
