/-
  No cell of these rows narrows 'for every input' (looked for: loops, veiled, ifaces, maps, wideKeys, modest, calm, conditions, laid).
  DERIVED. THE GIVEN ROWS OF THIS SEAT. 13 by the template 'for every input the law returns true; each argument reads behind the call as it read before'; 0 by the template 'total and deterministic' (their statements: YtfffhdcdkdaijaaTotals.lean).
  GIVEN WITH THE SEED: the statements are not yours to turn. If you find one false, say at which input.
  Laid BY PROGRAM, IN A SANDBOX (cutbox-rows.mjs): the forced cells as the released guide's own fill.sh prints them over the translation 70d90ca47e99ac90… (all of the seat's roots in one cut). By AI agents, Wed Nov 11 2026. No macro, syntax, notation, axiom, sorry.
-/
import Derived.Test.YtfffhdcdkdaijaaChecked
import GoSem.Claim
import GoSem.ClaimJoined
import GoSem.ClaimMapViews
import Derived.JoinedTies
import Derived.KernelRfl
namespace Go.Proofs.Ytfffhdcdkdaijaa
/- THE CELL 'sum', in the pinned program and in every row, IS THE sha256 OF THE DUMP (.gsa) THAT YtfffhdcdkdaijaaProg.lean LOADS. Nothing in Lean hashes anything: it is a label: what it is worth is what the hold of that sum in a sandbox is worth. -/
noncomputable def Try.pinned : Pinned := { name := "ytfffhdcdkdaijaa", sum := "70d90ca47e99ac905919a1630b7f7427d1d11551497b93c502afbd9db0c2c2c0", checked := Try.checked }
namespace Rows
def none {H : Type} : Left H := { results := [], args := [] }

/-- 'sectimelaw13.SmearNeverFalls': WHATEVER THE INPUT: true; the input reads as it did. -/
def smearNeverFallsSpec : ChangeSpec := { name := "smearNeverFalls", fn := fun _ => fun
  | [d1, d2, d3] => { results := [.lit (.bool true)], args := [d1, d2, d3] }
  | _ => none }
def smearNeverFallsRow : OpenClaim := { program := "ytfffhdcdkdaijaa", sum := "70d90ca47e99ac905919a1630b7f7427d1d11551497b93c502afbd9db0c2c2c0", func := "sectime/sectimelaw13.SmearNeverFalls", spec := "smearNeverFalls", unfollowed := true, recurses := true, named := ["math/bits.divideError", "math/bits.overflowError"], apart := false }
def SmearNeverFallsSaid : Prop := smearNeverFallsRow.holds Try.pinned (OpenSpec.ofChange smearNeverFallsSpec)

/-- ITS FALSE NEIGHBOUR: 'it returns false'. Refute it at one input. -/
def smearNeverFallsWrong : ChangeSpec := { name := "smearNeverFalls", fn := fun _ => fun
  | [d1, d2, d3] => { results := [.lit (.bool false)], args := [d1, d2, d3] }
  | _ => none }
def SmearNeverFallsWrongFalsely : Prop := smearNeverFallsRow.holds Try.pinned (OpenSpec.ofChange smearNeverFallsWrong)

/-- 'sectimelaw15.DriftInParts': WHATEVER THE INPUT: true; the input reads as it did. -/
def driftInPartsSpec : ChangeSpec := { name := "driftInParts", fn := fun _ => fun
  | [d1, d2, d3, d4, d5] => { results := [.lit (.bool true)], args := [d1, d2, d3, d4, d5] }
  | _ => none }
def driftInPartsRow : OpenClaim := { program := "ytfffhdcdkdaijaa", sum := "70d90ca47e99ac905919a1630b7f7427d1d11551497b93c502afbd9db0c2c2c0", func := "sectime/sectimelaw15.DriftInParts", spec := "driftInParts", named := ["math/bits.divideError", "math/bits.overflowError"], apart := false }
def DriftInPartsSaid : Prop := driftInPartsRow.holds Try.pinned (OpenSpec.ofChange driftInPartsSpec)

/-- ITS FALSE NEIGHBOUR: 'it returns false'. Refute it at one input. -/
def driftInPartsWrong : ChangeSpec := { name := "driftInParts", fn := fun _ => fun
  | [d1, d2, d3, d4, d5] => { results := [.lit (.bool false)], args := [d1, d2, d3, d4, d5] }
  | _ => none }
def DriftInPartsWrongFalsely : Prop := driftInPartsRow.holds Try.pinned (OpenSpec.ofChange driftInPartsWrong)

/-- 'sectimelaw15.DriftRates': WHATEVER THE INPUT: true; the input reads as it did. -/
def driftRatesSpec : ChangeSpec := { name := "driftRates", fn := fun _ => fun
  | [d1, d2, d3, d4] => { results := [.lit (.bool true)], args := [d1, d2, d3, d4] }
  | _ => none }
def driftRatesRow : OpenClaim := { program := "ytfffhdcdkdaijaa", sum := "70d90ca47e99ac905919a1630b7f7427d1d11551497b93c502afbd9db0c2c2c0", func := "sectime/sectimelaw15.DriftRates", spec := "driftRates", named := ["math/bits.divideError", "math/bits.overflowError"], apart := false }
def DriftRatesSaid : Prop := driftRatesRow.holds Try.pinned (OpenSpec.ofChange driftRatesSpec)

/-- ITS FALSE NEIGHBOUR: 'it returns false'. Refute it at one input. -/
def driftRatesWrong : ChangeSpec := { name := "driftRates", fn := fun _ => fun
  | [d1, d2, d3, d4] => { results := [.lit (.bool false)], args := [d1, d2, d3, d4] }
  | _ => none }
def DriftRatesWrongFalsely : Prop := driftRatesRow.holds Try.pinned (OpenSpec.ofChange driftRatesWrong)

/-- 'sectimelaw15.DriftWidens': WHATEVER THE INPUT: true; the input reads as it did. -/
def driftWidensSpec : ChangeSpec := { name := "driftWidens", fn := fun _ => fun
  | [d1, d2, d3, d4] => { results := [.lit (.bool true)], args := [d1, d2, d3, d4] }
  | _ => none }
def driftWidensRow : OpenClaim := { program := "ytfffhdcdkdaijaa", sum := "70d90ca47e99ac905919a1630b7f7427d1d11551497b93c502afbd9db0c2c2c0", func := "sectime/sectimelaw15.DriftWidens", spec := "driftWidens", named := ["math/bits.divideError", "math/bits.overflowError"], apart := false }
def DriftWidensSaid : Prop := driftWidensRow.holds Try.pinned (OpenSpec.ofChange driftWidensSpec)

/-- ITS FALSE NEIGHBOUR: 'it returns false'. Refute it at one input. -/
def driftWidensWrong : ChangeSpec := { name := "driftWidens", fn := fun _ => fun
  | [d1, d2, d3, d4] => { results := [.lit (.bool false)], args := [d1, d2, d3, d4] }
  | _ => none }
def DriftWidensWrongFalsely : Prop := driftWidensRow.holds Try.pinned (OpenSpec.ofChange driftWidensWrong)

/-- 'sectimetop.TopSmearedSources': WHATEVER THE INPUT: true; the input reads as it did. -/
def topSmearedSourcesSpec : ChangeSpec := { name := "topSmearedSources", fn := fun _ => fun
  | [d1, d2, d3] => { results := [.lit (.bool true)], args := [d1, d2, d3] }
  | _ => none }
def topSmearedSourcesRow : OpenClaim := { program := "ytfffhdcdkdaijaa", sum := "70d90ca47e99ac905919a1630b7f7427d1d11551497b93c502afbd9db0c2c2c0", func := "sectime/sectimetop.TopSmearedSources", spec := "topSmearedSources", unfollowed := true, recurses := true, named := ["math/bits.divideError", "math/bits.overflowError"], apart := false }
def TopSmearedSourcesSaid : Prop := topSmearedSourcesRow.holds Try.pinned (OpenSpec.ofChange topSmearedSourcesSpec)

/-- ITS FALSE NEIGHBOUR: 'it returns false'. Refute it at one input. -/
def topSmearedSourcesWrong : ChangeSpec := { name := "topSmearedSources", fn := fun _ => fun
  | [d1, d2, d3] => { results := [.lit (.bool false)], args := [d1, d2, d3] }
  | _ => none }
def TopSmearedSourcesWrongFalsely : Prop := topSmearedSourcesRow.holds Try.pinned (OpenSpec.ofChange topSmearedSourcesWrong)

/-- 'sectimelaw13.SmearContains': WHATEVER THE INPUT: true; the input reads as it did. -/
def smearContainsSpec : ChangeSpec := { name := "smearContains", fn := fun _ => fun
  | [d1, d2] => { results := [.lit (.bool true)], args := [d1, d2] }
  | _ => none }
def smearContainsRow : OpenClaim := { program := "ytfffhdcdkdaijaa", sum := "70d90ca47e99ac905919a1630b7f7427d1d11551497b93c502afbd9db0c2c2c0", func := "sectime/sectimelaw13.SmearContains", spec := "smearContains", unfollowed := true, recurses := true, named := ["math/bits.divideError", "math/bits.overflowError"], apart := false }
def SmearContainsSaid : Prop := smearContainsRow.holds Try.pinned (OpenSpec.ofChange smearContainsSpec)

/-- ITS FALSE NEIGHBOUR: 'it returns false'. Refute it at one input. -/
def smearContainsWrong : ChangeSpec := { name := "smearContains", fn := fun _ => fun
  | [d1, d2] => { results := [.lit (.bool false)], args := [d1, d2] }
  | _ => none }
def SmearContainsWrongFalsely : Prop := smearContainsRow.holds Try.pinned (OpenSpec.ofChange smearContainsWrong)

/-- 'sectimelaw13.SmearIsNearUTC': WHATEVER THE INPUT: true; the input reads as it did. -/
def smearIsNearUTCSpec : ChangeSpec := { name := "smearIsNearUTC", fn := fun _ => fun
  | [d1, d2] => { results := [.lit (.bool true)], args := [d1, d2] }
  | _ => none }
def smearIsNearUTCRow : OpenClaim := { program := "ytfffhdcdkdaijaa", sum := "70d90ca47e99ac905919a1630b7f7427d1d11551497b93c502afbd9db0c2c2c0", func := "sectime/sectimelaw13.SmearIsNearUTC", spec := "smearIsNearUTC", unfollowed := true, recurses := true, named := ["math/bits.divideError", "math/bits.overflowError"], apart := false }
def SmearIsNearUTCSaid : Prop := smearIsNearUTCRow.holds Try.pinned (OpenSpec.ofChange smearIsNearUTCSpec)

/-- ITS FALSE NEIGHBOUR: 'it returns false'. Refute it at one input. -/
def smearIsNearUTCWrong : ChangeSpec := { name := "smearIsNearUTC", fn := fun _ => fun
  | [d1, d2] => { results := [.lit (.bool false)], args := [d1, d2] }
  | _ => none }
def SmearIsNearUTCWrongFalsely : Prop := smearIsNearUTCRow.holds Try.pinned (OpenSpec.ofChange smearIsNearUTCWrong)

/-- 'sectimetop.TopScales': WHATEVER THE INPUT: true; the input reads as it did. -/
def topScalesSpec : ChangeSpec := { name := "topScales", fn := fun _ => fun
  | [d1, d2, d3, d4] => { results := [.lit (.bool true)], args := [d1, d2, d3, d4] }
  | _ => none }
def topScalesRow : OpenClaim := { program := "ytfffhdcdkdaijaa", sum := "70d90ca47e99ac905919a1630b7f7427d1d11551497b93c502afbd9db0c2c2c0", func := "sectime/sectimetop.TopScales", spec := "topScales", unfollowed := true, recurses := true, named := ["math/bits.divideError", "math/bits.overflowError"], apart := false }
def TopScalesSaid : Prop := topScalesRow.holds Try.pinned (OpenSpec.ofChange topScalesSpec)

/-- ITS FALSE NEIGHBOUR: 'it returns false'. Refute it at one input. -/
def topScalesWrong : ChangeSpec := { name := "topScales", fn := fun _ => fun
  | [d1, d2, d3, d4] => { results := [.lit (.bool false)], args := [d1, d2, d3, d4] }
  | _ => none }
def TopScalesWrongFalsely : Prop := topScalesRow.holds Try.pinned (OpenSpec.ofChange topScalesWrong)

/-- 'sectimelaw15.DriftReturns': WHATEVER THE INPUT: true; the input reads as it did. -/
def driftReturnsSpec : ChangeSpec := { name := "driftReturns", fn := fun _ => fun
  | [d1, d2, d3, d4] => { results := [.lit (.bool true)], args := [d1, d2, d3, d4] }
  | _ => none }
def driftReturnsRow : OpenClaim := { program := "ytfffhdcdkdaijaa", sum := "70d90ca47e99ac905919a1630b7f7427d1d11551497b93c502afbd9db0c2c2c0", func := "sectime/sectimelaw15.DriftReturns", spec := "driftReturns", unfollowed := true, recurses := true, named := ["math/bits.divideError", "math/bits.overflowError"], apart := false }
def DriftReturnsSaid : Prop := driftReturnsRow.holds Try.pinned (OpenSpec.ofChange driftReturnsSpec)

/-- ITS FALSE NEIGHBOUR: 'it returns false'. Refute it at one input. -/
def driftReturnsWrong : ChangeSpec := { name := "driftReturns", fn := fun _ => fun
  | [d1, d2, d3, d4] => { results := [.lit (.bool false)], args := [d1, d2, d3, d4] }
  | _ => none }
def DriftReturnsWrongFalsely : Prop := driftReturnsRow.holds Try.pinned (OpenSpec.ofChange driftReturnsWrong)

/-- 'sectimelaw15.DriftActs': WHATEVER THE INPUT: true; the input reads as it did. -/
def driftActsSpec : ChangeSpec := { name := "driftActs", fn := fun _ => fun
  | [d1, d2, d3, d4] => { results := [.lit (.bool true)], args := [d1, d2, d3, d4] }
  | _ => none }
def driftActsRow : OpenClaim := { program := "ytfffhdcdkdaijaa", sum := "70d90ca47e99ac905919a1630b7f7427d1d11551497b93c502afbd9db0c2c2c0", func := "sectime/sectimelaw15.DriftActs", spec := "driftActs", unfollowed := true, recurses := true, named := ["math/bits.divideError", "math/bits.overflowError"], apart := false }
def DriftActsSaid : Prop := driftActsRow.holds Try.pinned (OpenSpec.ofChange driftActsSpec)

/-- ITS FALSE NEIGHBOUR: 'it returns false'. Refute it at one input. -/
def driftActsWrong : ChangeSpec := { name := "driftActs", fn := fun _ => fun
  | [d1, d2, d3, d4] => { results := [.lit (.bool false)], args := [d1, d2, d3, d4] }
  | _ => none }
def DriftActsWrongFalsely : Prop := driftActsRow.holds Try.pinned (OpenSpec.ofChange driftActsWrong)

/-- 'sectimelaw15.DriftContains': WHATEVER THE INPUT: true; the input reads as it did. -/
def driftContainsSpec : ChangeSpec := { name := "driftContains", fn := fun _ => fun
  | [d1, d2, d3, d4, d5, d6] => { results := [.lit (.bool true)], args := [d1, d2, d3, d4, d5, d6] }
  | _ => none }
def driftContainsRow : OpenClaim := { program := "ytfffhdcdkdaijaa", sum := "70d90ca47e99ac905919a1630b7f7427d1d11551497b93c502afbd9db0c2c2c0", func := "sectime/sectimelaw15.DriftContains", spec := "driftContains", unfollowed := true, recurses := true, named := ["math/bits.divideError", "math/bits.overflowError"], apart := false }
def DriftContainsSaid : Prop := driftContainsRow.holds Try.pinned (OpenSpec.ofChange driftContainsSpec)

/-- ITS FALSE NEIGHBOUR: 'it returns false'. Refute it at one input. -/
def driftContainsWrong : ChangeSpec := { name := "driftContains", fn := fun _ => fun
  | [d1, d2, d3, d4, d5, d6] => { results := [.lit (.bool false)], args := [d1, d2, d3, d4, d5, d6] }
  | _ => none }
def DriftContainsWrongFalsely : Prop := driftContainsRow.holds Try.pinned (OpenSpec.ofChange driftContainsWrong)

/-- 'sectimelaw13.SmearActs': WHATEVER THE INPUT: true; the input reads as it did. -/
def smearActsSpec : ChangeSpec := { name := "smearActs", fn := fun _ => fun
  | [d1, d2, d3, d4] => { results := [.lit (.bool true)], args := [d1, d2, d3, d4] }
  | _ => none }
def smearActsRow : OpenClaim := { program := "ytfffhdcdkdaijaa", sum := "70d90ca47e99ac905919a1630b7f7427d1d11551497b93c502afbd9db0c2c2c0", func := "sectime/sectimelaw13.SmearActs", spec := "smearActs", unfollowed := true, recurses := true, named := ["math/bits.divideError", "math/bits.overflowError"], apart := false }
def SmearActsSaid : Prop := smearActsRow.holds Try.pinned (OpenSpec.ofChange smearActsSpec)

/-- ITS FALSE NEIGHBOUR: 'it returns false'. Refute it at one input. -/
def smearActsWrong : ChangeSpec := { name := "smearActs", fn := fun _ => fun
  | [d1, d2, d3, d4] => { results := [.lit (.bool false)], args := [d1, d2, d3, d4] }
  | _ => none }
def SmearActsWrongFalsely : Prop := smearActsRow.holds Try.pinned (OpenSpec.ofChange smearActsWrong)

/-- 'sectimelaw13.SmearNear': WHATEVER THE INPUT: true; the input reads as it did. -/
def smearNearSpec : ChangeSpec := { name := "smearNear", fn := fun _ => fun
  | [d1, d2] => { results := [.lit (.bool true)], args := [d1, d2] }
  | _ => none }
def smearNearRow : OpenClaim := { program := "ytfffhdcdkdaijaa", sum := "70d90ca47e99ac905919a1630b7f7427d1d11551497b93c502afbd9db0c2c2c0", func := "sectime/sectimelaw13.SmearNear", spec := "smearNear", unfollowed := true, recurses := true, named := ["math/bits.divideError", "math/bits.overflowError"], apart := false }
def SmearNearSaid : Prop := smearNearRow.holds Try.pinned (OpenSpec.ofChange smearNearSpec)

/-- ITS FALSE NEIGHBOUR: 'it returns false'. Refute it at one input. -/
def smearNearWrong : ChangeSpec := { name := "smearNear", fn := fun _ => fun
  | [d1, d2] => { results := [.lit (.bool false)], args := [d1, d2] }
  | _ => none }
def SmearNearWrongFalsely : Prop := smearNearRow.holds Try.pinned (OpenSpec.ofChange smearNearWrong)

/- THE SECOND FORM. 'bulk': how many values and letters a reading holds, each counted each time it is reached (what is shared counts as often as it is met; a slice's spare places count too). A statement '..UptoSaid' is the law's where the arguments, and the package variables that the reading takes, are together of bulk at most 1048576: NARROWER than '..Said'. Prove '..Said' where nothing that the law and all that it calls make is longer than what came in: it says more and counts as full. Else prove '..UptoSaid'. A law counts once. -/
mutual
def uptoBulk {H : Type} : DataW H → Nat
  | .lit (.string bytes) => bytes.length + 1
  | .lit _ => 1
  | .nil => 1
  | .ptr d => uptoBulk d + 1
  | .slice elems spare => uptoBulkAll elems + uptoBulkAll spare + 1
  | .agg parts => uptoBulkAll parts + 1
  | .iface _ d => uptoBulk d + 1
  | .map entries => uptoBulkEntries entries + 1
  | .held _ => 1
def uptoBulkAll {H : Type} : List (DataW H) → Nat
  | [] => 0
  | d :: r => uptoBulk d + uptoBulkAll r
def uptoBulkEntries {H : Type} : List (Lit × DataW H) → Nat
  | [] => 0
  | x :: r => uptoBulkEntry x + uptoBulkEntries r
def uptoBulkEntry {H : Type} : Lit × DataW H → Nat
  | (.string bytes, d) => bytes.length + uptoBulk d + 1
  | (_, d) => uptoBulk d + 1
 end
def uptoSmall : (H : Type) → List (DataW H) → Bool := fun _ ds => decide (uptoBulkAll ds ≤ 1048576)
def OpenSpec.upto (s : _root_.Go.ChangeSpec) : _root_.Go.OpenSpec := { _root_.Go.OpenSpec.ofChange s with cond := some uptoSmall }

/-- 'sectimelaw13.SmearNeverFalls', WHERE WHAT IT READS IS OF BULK AT MOST 1048576: true; the input reads as it did. -/
def smearNeverFallsUptoRow : OpenClaim := { program := "ytfffhdcdkdaijaa", sum := "70d90ca47e99ac905919a1630b7f7427d1d11551497b93c502afbd9db0c2c2c0", func := "sectime/sectimelaw13.SmearNeverFalls", spec := "smearNeverFalls", unfollowed := true, recurses := true, named := ["math/bits.divideError", "math/bits.overflowError"], apart := false, narrowed := true }
def SmearNeverFallsUptoSaid : Prop := smearNeverFallsUptoRow.holds Try.pinned (OpenSpec.upto smearNeverFallsSpec)

/-- 'sectimelaw15.DriftInParts', WHERE WHAT IT READS IS OF BULK AT MOST 1048576: true; the input reads as it did. -/
def driftInPartsUptoRow : OpenClaim := { program := "ytfffhdcdkdaijaa", sum := "70d90ca47e99ac905919a1630b7f7427d1d11551497b93c502afbd9db0c2c2c0", func := "sectime/sectimelaw15.DriftInParts", spec := "driftInParts", named := ["math/bits.divideError", "math/bits.overflowError"], apart := false, narrowed := true }
def DriftInPartsUptoSaid : Prop := driftInPartsUptoRow.holds Try.pinned (OpenSpec.upto driftInPartsSpec)

/-- 'sectimelaw15.DriftRates', WHERE WHAT IT READS IS OF BULK AT MOST 1048576: true; the input reads as it did. -/
def driftRatesUptoRow : OpenClaim := { program := "ytfffhdcdkdaijaa", sum := "70d90ca47e99ac905919a1630b7f7427d1d11551497b93c502afbd9db0c2c2c0", func := "sectime/sectimelaw15.DriftRates", spec := "driftRates", named := ["math/bits.divideError", "math/bits.overflowError"], apart := false, narrowed := true }
def DriftRatesUptoSaid : Prop := driftRatesUptoRow.holds Try.pinned (OpenSpec.upto driftRatesSpec)

/-- 'sectimelaw15.DriftWidens', WHERE WHAT IT READS IS OF BULK AT MOST 1048576: true; the input reads as it did. -/
def driftWidensUptoRow : OpenClaim := { program := "ytfffhdcdkdaijaa", sum := "70d90ca47e99ac905919a1630b7f7427d1d11551497b93c502afbd9db0c2c2c0", func := "sectime/sectimelaw15.DriftWidens", spec := "driftWidens", named := ["math/bits.divideError", "math/bits.overflowError"], apart := false, narrowed := true }
def DriftWidensUptoSaid : Prop := driftWidensUptoRow.holds Try.pinned (OpenSpec.upto driftWidensSpec)

/-- 'sectimetop.TopSmearedSources', WHERE WHAT IT READS IS OF BULK AT MOST 1048576: true; the input reads as it did. -/
def topSmearedSourcesUptoRow : OpenClaim := { program := "ytfffhdcdkdaijaa", sum := "70d90ca47e99ac905919a1630b7f7427d1d11551497b93c502afbd9db0c2c2c0", func := "sectime/sectimetop.TopSmearedSources", spec := "topSmearedSources", unfollowed := true, recurses := true, named := ["math/bits.divideError", "math/bits.overflowError"], apart := false, narrowed := true }
def TopSmearedSourcesUptoSaid : Prop := topSmearedSourcesUptoRow.holds Try.pinned (OpenSpec.upto topSmearedSourcesSpec)

/-- 'sectimelaw13.SmearContains', WHERE WHAT IT READS IS OF BULK AT MOST 1048576: true; the input reads as it did. -/
def smearContainsUptoRow : OpenClaim := { program := "ytfffhdcdkdaijaa", sum := "70d90ca47e99ac905919a1630b7f7427d1d11551497b93c502afbd9db0c2c2c0", func := "sectime/sectimelaw13.SmearContains", spec := "smearContains", unfollowed := true, recurses := true, named := ["math/bits.divideError", "math/bits.overflowError"], apart := false, narrowed := true }
def SmearContainsUptoSaid : Prop := smearContainsUptoRow.holds Try.pinned (OpenSpec.upto smearContainsSpec)

/-- 'sectimelaw13.SmearIsNearUTC', WHERE WHAT IT READS IS OF BULK AT MOST 1048576: true; the input reads as it did. -/
def smearIsNearUTCUptoRow : OpenClaim := { program := "ytfffhdcdkdaijaa", sum := "70d90ca47e99ac905919a1630b7f7427d1d11551497b93c502afbd9db0c2c2c0", func := "sectime/sectimelaw13.SmearIsNearUTC", spec := "smearIsNearUTC", unfollowed := true, recurses := true, named := ["math/bits.divideError", "math/bits.overflowError"], apart := false, narrowed := true }
def SmearIsNearUTCUptoSaid : Prop := smearIsNearUTCUptoRow.holds Try.pinned (OpenSpec.upto smearIsNearUTCSpec)

/-- 'sectimetop.TopScales', WHERE WHAT IT READS IS OF BULK AT MOST 1048576: true; the input reads as it did. -/
def topScalesUptoRow : OpenClaim := { program := "ytfffhdcdkdaijaa", sum := "70d90ca47e99ac905919a1630b7f7427d1d11551497b93c502afbd9db0c2c2c0", func := "sectime/sectimetop.TopScales", spec := "topScales", unfollowed := true, recurses := true, named := ["math/bits.divideError", "math/bits.overflowError"], apart := false, narrowed := true }
def TopScalesUptoSaid : Prop := topScalesUptoRow.holds Try.pinned (OpenSpec.upto topScalesSpec)

/-- 'sectimelaw15.DriftReturns', WHERE WHAT IT READS IS OF BULK AT MOST 1048576: true; the input reads as it did. -/
def driftReturnsUptoRow : OpenClaim := { program := "ytfffhdcdkdaijaa", sum := "70d90ca47e99ac905919a1630b7f7427d1d11551497b93c502afbd9db0c2c2c0", func := "sectime/sectimelaw15.DriftReturns", spec := "driftReturns", unfollowed := true, recurses := true, named := ["math/bits.divideError", "math/bits.overflowError"], apart := false, narrowed := true }
def DriftReturnsUptoSaid : Prop := driftReturnsUptoRow.holds Try.pinned (OpenSpec.upto driftReturnsSpec)

/-- 'sectimelaw15.DriftActs', WHERE WHAT IT READS IS OF BULK AT MOST 1048576: true; the input reads as it did. -/
def driftActsUptoRow : OpenClaim := { program := "ytfffhdcdkdaijaa", sum := "70d90ca47e99ac905919a1630b7f7427d1d11551497b93c502afbd9db0c2c2c0", func := "sectime/sectimelaw15.DriftActs", spec := "driftActs", unfollowed := true, recurses := true, named := ["math/bits.divideError", "math/bits.overflowError"], apart := false, narrowed := true }
def DriftActsUptoSaid : Prop := driftActsUptoRow.holds Try.pinned (OpenSpec.upto driftActsSpec)

/-- 'sectimelaw15.DriftContains', WHERE WHAT IT READS IS OF BULK AT MOST 1048576: true; the input reads as it did. -/
def driftContainsUptoRow : OpenClaim := { program := "ytfffhdcdkdaijaa", sum := "70d90ca47e99ac905919a1630b7f7427d1d11551497b93c502afbd9db0c2c2c0", func := "sectime/sectimelaw15.DriftContains", spec := "driftContains", unfollowed := true, recurses := true, named := ["math/bits.divideError", "math/bits.overflowError"], apart := false, narrowed := true }
def DriftContainsUptoSaid : Prop := driftContainsUptoRow.holds Try.pinned (OpenSpec.upto driftContainsSpec)

/-- 'sectimelaw13.SmearActs', WHERE WHAT IT READS IS OF BULK AT MOST 1048576: true; the input reads as it did. -/
def smearActsUptoRow : OpenClaim := { program := "ytfffhdcdkdaijaa", sum := "70d90ca47e99ac905919a1630b7f7427d1d11551497b93c502afbd9db0c2c2c0", func := "sectime/sectimelaw13.SmearActs", spec := "smearActs", unfollowed := true, recurses := true, named := ["math/bits.divideError", "math/bits.overflowError"], apart := false, narrowed := true }
def SmearActsUptoSaid : Prop := smearActsUptoRow.holds Try.pinned (OpenSpec.upto smearActsSpec)

/-- 'sectimelaw13.SmearNear', WHERE WHAT IT READS IS OF BULK AT MOST 1048576: true; the input reads as it did. -/
def smearNearUptoRow : OpenClaim := { program := "ytfffhdcdkdaijaa", sum := "70d90ca47e99ac905919a1630b7f7427d1d11551497b93c502afbd9db0c2c2c0", func := "sectime/sectimelaw13.SmearNear", spec := "smearNear", unfollowed := true, recurses := true, named := ["math/bits.divideError", "math/bits.overflowError"], apart := false, narrowed := true }
def SmearNearUptoSaid : Prop := smearNearUptoRow.holds Try.pinned (OpenSpec.upto smearNearSpec)

end Rows
end Go.Proofs.Ytfffhdcdkdaijaa
