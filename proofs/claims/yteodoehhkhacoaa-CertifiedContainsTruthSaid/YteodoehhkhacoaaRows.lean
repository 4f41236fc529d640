/-
  No cell of these rows narrows 'for every input' (looked for: loops, veiled, ifaces, maps, wideKeys, modest, calm, conditions, laid).
  DERIVED. THE GIVEN ROWS OF THIS SEAT. 10 by the template 'for every input the law returns true; each argument reads behind the call as it read before'; 0 by the template 'total and deterministic' (their statements: YteodoehhkhacoaaTotals.lean).
  GIVEN WITH THE SEED: the statements are not yours to turn. If you find one false, say at which input.
  Laid BY PROGRAM, IN A SANDBOX (cutbox-rows.mjs): the forced cells as the released guide's own fill.sh prints them over the translation 3aaa06d7ebf01de1… (all of the seat's roots in one cut). By AI agents, Wed Nov 11 2026. No macro, syntax, notation, axiom, sorry.
-/
import Derived.Test.YteodoehhkhacoaaChecked
import GoSem.Claim
import GoSem.ClaimJoined
import GoSem.ClaimMapViews
import Derived.JoinedTies
import Derived.KernelRfl
namespace Go.Proofs.Yteodoehhkhacoaa
/- THE CELL 'sum', in the pinned program and in every row, IS THE sha256 OF THE DUMP (.gsa) THAT YteodoehhkhacoaaProg.lean LOADS. Nothing in Lean hashes anything: it is a label: what it is worth is what the hold of that sum in a sandbox is worth. -/
noncomputable def Try.pinned : Pinned := { name := "yteodoehhkhacoaa", sum := "3aaa06d7ebf01de19878688c3f350c49406a352dcb45e12950011e2b5c3cedc6", checked := Try.checked }
namespace Rows
def none {H : Type} : Left H := { results := [], args := [] }

/-- 'sectimelaw37.CertifiedActs': WHATEVER THE INPUT: true; the input reads as it did. -/
def certifiedActsSpec : ChangeSpec := { name := "certifiedActs", fn := fun _ => fun
  | [d1, d2, d3] => { results := [.lit (.bool true)], args := [d1, d2, d3] }
  | _ => none }
def certifiedActsRow : OpenClaim := { program := "yteodoehhkhacoaa", sum := "3aaa06d7ebf01de19878688c3f350c49406a352dcb45e12950011e2b5c3cedc6", func := "sectime/sectimelaw37.CertifiedActs", spec := "certifiedActs", unfollowed := true, recurses := true, named := ["math/bits.divideError", "math/bits.overflowError"], apart := false }
def CertifiedActsSaid : Prop := certifiedActsRow.holds Try.pinned (OpenSpec.ofChange certifiedActsSpec)

/-- ITS FALSE NEIGHBOUR: 'it returns false'. Refute it at one input. -/
def certifiedActsWrong : ChangeSpec := { name := "certifiedActs", fn := fun _ => fun
  | [d1, d2, d3] => { results := [.lit (.bool false)], args := [d1, d2, d3] }
  | _ => none }
def CertifiedActsWrongFalsely : Prop := certifiedActsRow.holds Try.pinned (OpenSpec.ofChange certifiedActsWrong)

/-- 'sectimelaw37.CertifiedContainsTruth': WHATEVER THE INPUT: true; the input reads as it did. -/
def certifiedContainsTruthSpec : ChangeSpec := { name := "certifiedContainsTruth", fn := fun _ => fun
  | [d] => { results := [.lit (.bool true)], args := [d] }
  | _ => none }
def certifiedContainsTruthRow : OpenClaim := { program := "yteodoehhkhacoaa", sum := "3aaa06d7ebf01de19878688c3f350c49406a352dcb45e12950011e2b5c3cedc6", func := "sectime/sectimelaw37.CertifiedContainsTruth", spec := "certifiedContainsTruth", unfollowed := true, recurses := true, named := ["math/bits.divideError", "math/bits.overflowError"], apart := false }
def CertifiedContainsTruthSaid : Prop := certifiedContainsTruthRow.holds Try.pinned (OpenSpec.ofChange certifiedContainsTruthSpec)

/-- ITS FALSE NEIGHBOUR: 'it returns false'. Refute it at one input. -/
def certifiedContainsTruthWrong : ChangeSpec := { name := "certifiedContainsTruth", fn := fun _ => fun
  | [d] => { results := [.lit (.bool false)], args := [d] }
  | _ => none }
def CertifiedContainsTruthWrongFalsely : Prop := certifiedContainsTruthRow.holds Try.pinned (OpenSpec.ofChange certifiedContainsTruthWrong)

/-- 'sectimelaw37.CertifiedNeverFallsBack': WHATEVER THE INPUT: true; the input reads as it did. -/
def certifiedNeverFallsBackSpec : ChangeSpec := { name := "certifiedNeverFallsBack", fn := fun _ => fun
  | [d1, d2, d3] => { results := [.lit (.bool true)], args := [d1, d2, d3] }
  | _ => none }
def certifiedNeverFallsBackRow : OpenClaim := { program := "yteodoehhkhacoaa", sum := "3aaa06d7ebf01de19878688c3f350c49406a352dcb45e12950011e2b5c3cedc6", func := "sectime/sectimelaw37.CertifiedNeverFallsBack", spec := "certifiedNeverFallsBack", unfollowed := true, recurses := true, named := ["math/bits.divideError", "math/bits.overflowError"], apart := false }
def CertifiedNeverFallsBackSaid : Prop := certifiedNeverFallsBackRow.holds Try.pinned (OpenSpec.ofChange certifiedNeverFallsBackSpec)

/-- ITS FALSE NEIGHBOUR: 'it returns false'. Refute it at one input. -/
def certifiedNeverFallsBackWrong : ChangeSpec := { name := "certifiedNeverFallsBack", fn := fun _ => fun
  | [d1, d2, d3] => { results := [.lit (.bool false)], args := [d1, d2, d3] }
  | _ => none }
def CertifiedNeverFallsBackWrongFalsely : Prop := certifiedNeverFallsBackRow.holds Try.pinned (OpenSpec.ofChange certifiedNeverFallsBackWrong)

/-- 'sectimelaw37.CertifiedKeepsWhatItKnows': WHATEVER THE INPUT: true; the input reads as it did. -/
def certifiedKeepsWhatItKnowsSpec : ChangeSpec := { name := "certifiedKeepsWhatItKnows", fn := fun _ => fun
  | [d1, d2] => { results := [.lit (.bool true)], args := [d1, d2] }
  | _ => none }
def certifiedKeepsWhatItKnowsRow : OpenClaim := { program := "yteodoehhkhacoaa", sum := "3aaa06d7ebf01de19878688c3f350c49406a352dcb45e12950011e2b5c3cedc6", func := "sectime/sectimelaw37.CertifiedKeepsWhatItKnows", spec := "certifiedKeepsWhatItKnows", unfollowed := true, recurses := true, named := ["math/bits.divideError", "math/bits.overflowError"], apart := false }
def CertifiedKeepsWhatItKnowsSaid : Prop := certifiedKeepsWhatItKnowsRow.holds Try.pinned (OpenSpec.ofChange certifiedKeepsWhatItKnowsSpec)

/-- ITS FALSE NEIGHBOUR: 'it returns false'. Refute it at one input. -/
def certifiedKeepsWhatItKnowsWrong : ChangeSpec := { name := "certifiedKeepsWhatItKnows", fn := fun _ => fun
  | [d1, d2] => { results := [.lit (.bool false)], args := [d1, d2] }
  | _ => none }
def CertifiedKeepsWhatItKnowsWrongFalsely : Prop := certifiedKeepsWhatItKnowsRow.holds Try.pinned (OpenSpec.ofChange certifiedKeepsWhatItKnowsWrong)

/-- 'sectimelaw11.IntervalLists': WHATEVER THE INPUT: true; the input reads as it did. -/
def intervalListsSpec : ChangeSpec := { name := "intervalLists", fn := fun _ => fun
  | [d] => { results := [.lit (.bool true)], args := [d] }
  | _ => none }
def intervalListsRow : OpenClaim := { program := "yteodoehhkhacoaa", sum := "3aaa06d7ebf01de19878688c3f350c49406a352dcb45e12950011e2b5c3cedc6", func := "sectime/sectimelaw11.IntervalLists", spec := "intervalLists", unfollowed := true, recurses := true, apart := false }
def IntervalListsSaid : Prop := intervalListsRow.holds Try.pinned (OpenSpec.ofChange intervalListsSpec)

/-- ITS FALSE NEIGHBOUR: 'it returns false'. Refute it at one input. -/
def intervalListsWrong : ChangeSpec := { name := "intervalLists", fn := fun _ => fun
  | [d] => { results := [.lit (.bool false)], args := [d] }
  | _ => none }
def IntervalListsWrongFalsely : Prop := intervalListsRow.holds Try.pinned (OpenSpec.ofChange intervalListsWrong)

/-- 'sectimelaw11.IntervalUnion': WHATEVER THE INPUT: true; the input reads as it did. -/
def intervalUnionSpec : ChangeSpec := { name := "intervalUnion", fn := fun _ => fun
  | [d1, d2] => { results := [.lit (.bool true)], args := [d1, d2] }
  | _ => none }
def intervalUnionRow : OpenClaim := { program := "yteodoehhkhacoaa", sum := "3aaa06d7ebf01de19878688c3f350c49406a352dcb45e12950011e2b5c3cedc6", func := "sectime/sectimelaw11.IntervalUnion", spec := "intervalUnion", unfollowed := true, recurses := true, apart := false }
def IntervalUnionSaid : Prop := intervalUnionRow.holds Try.pinned (OpenSpec.ofChange intervalUnionSpec)

/-- ITS FALSE NEIGHBOUR: 'it returns false'. Refute it at one input. -/
def intervalUnionWrong : ChangeSpec := { name := "intervalUnion", fn := fun _ => fun
  | [d1, d2] => { results := [.lit (.bool false)], args := [d1, d2] }
  | _ => none }
def IntervalUnionWrongFalsely : Prop := intervalUnionRow.holds Try.pinned (OpenSpec.ofChange intervalUnionWrong)

/-- 'sectimelaw11.IntervalOrder': WHATEVER THE INPUT: true; the input reads as it did. -/
def intervalOrderSpec : ChangeSpec := { name := "intervalOrder", fn := fun _ => fun
  | [d1, d2, d3, d4, d5] => { results := [.lit (.bool true)], args := [d1, d2, d3, d4, d5] }
  | _ => none }
def intervalOrderRow : OpenClaim := { program := "yteodoehhkhacoaa", sum := "3aaa06d7ebf01de19878688c3f350c49406a352dcb45e12950011e2b5c3cedc6", func := "sectime/sectimelaw11.IntervalOrder", spec := "intervalOrder", unfollowed := true, recurses := true, apart := false }
def IntervalOrderSaid : Prop := intervalOrderRow.holds Try.pinned (OpenSpec.ofChange intervalOrderSpec)

/-- ITS FALSE NEIGHBOUR: 'it returns false'. Refute it at one input. -/
def intervalOrderWrong : ChangeSpec := { name := "intervalOrder", fn := fun _ => fun
  | [d1, d2, d3, d4, d5] => { results := [.lit (.bool false)], args := [d1, d2, d3, d4, d5] }
  | _ => none }
def IntervalOrderWrongFalsely : Prop := intervalOrderRow.holds Try.pinned (OpenSpec.ofChange intervalOrderWrong)

/-- 'sectimelaw11.IntervalAlgebra': WHATEVER THE INPUT: true; the input reads as it did. -/
def intervalAlgebraSpec : ChangeSpec := { name := "intervalAlgebra", fn := fun _ => fun
  | [d1, d2, d3, d4, d5, d6] => { results := [.lit (.bool true)], args := [d1, d2, d3, d4, d5, d6] }
  | _ => none }
def intervalAlgebraRow : OpenClaim := { program := "yteodoehhkhacoaa", sum := "3aaa06d7ebf01de19878688c3f350c49406a352dcb45e12950011e2b5c3cedc6", func := "sectime/sectimelaw11.IntervalAlgebra", spec := "intervalAlgebra", unfollowed := true, recurses := true, apart := false }
def IntervalAlgebraSaid : Prop := intervalAlgebraRow.holds Try.pinned (OpenSpec.ofChange intervalAlgebraSpec)

/-- ITS FALSE NEIGHBOUR: 'it returns false'. Refute it at one input. -/
def intervalAlgebraWrong : ChangeSpec := { name := "intervalAlgebra", fn := fun _ => fun
  | [d1, d2, d3, d4, d5, d6] => { results := [.lit (.bool false)], args := [d1, d2, d3, d4, d5, d6] }
  | _ => none }
def IntervalAlgebraWrongFalsely : Prop := intervalAlgebraRow.holds Try.pinned (OpenSpec.ofChange intervalAlgebraWrong)

/-- 'sectimelaw11.IntervalMeaning': WHATEVER THE INPUT: true; the input reads as it did. -/
def intervalMeaningSpec : ChangeSpec := { name := "intervalMeaning", fn := fun _ => fun
  | [d1, d2, d3, d4, d5, d6] => { results := [.lit (.bool true)], args := [d1, d2, d3, d4, d5, d6] }
  | _ => none }
def intervalMeaningRow : OpenClaim := { program := "yteodoehhkhacoaa", sum := "3aaa06d7ebf01de19878688c3f350c49406a352dcb45e12950011e2b5c3cedc6", func := "sectime/sectimelaw11.IntervalMeaning", spec := "intervalMeaning", unfollowed := true, recurses := true, apart := false }
def IntervalMeaningSaid : Prop := intervalMeaningRow.holds Try.pinned (OpenSpec.ofChange intervalMeaningSpec)

/-- ITS FALSE NEIGHBOUR: 'it returns false'. Refute it at one input. -/
def intervalMeaningWrong : ChangeSpec := { name := "intervalMeaning", fn := fun _ => fun
  | [d1, d2, d3, d4, d5, d6] => { results := [.lit (.bool false)], args := [d1, d2, d3, d4, d5, d6] }
  | _ => none }
def IntervalMeaningWrongFalsely : Prop := intervalMeaningRow.holds Try.pinned (OpenSpec.ofChange intervalMeaningWrong)

/-- 'sectimelaw11.IntervalActs': WHATEVER THE INPUT: true; the input reads as it did. -/
def intervalActsSpec : ChangeSpec := { name := "intervalActs", fn := fun _ => fun
  | [d1, d2, d3, d4, d5] => { results := [.lit (.bool true)], args := [d1, d2, d3, d4, d5] }
  | _ => none }
def intervalActsRow : OpenClaim := { program := "yteodoehhkhacoaa", sum := "3aaa06d7ebf01de19878688c3f350c49406a352dcb45e12950011e2b5c3cedc6", func := "sectime/sectimelaw11.IntervalActs", spec := "intervalActs", unfollowed := true, recurses := true, apart := false }
def IntervalActsSaid : Prop := intervalActsRow.holds Try.pinned (OpenSpec.ofChange intervalActsSpec)

/-- ITS FALSE NEIGHBOUR: 'it returns false'. Refute it at one input. -/
def intervalActsWrong : ChangeSpec := { name := "intervalActs", fn := fun _ => fun
  | [d1, d2, d3, d4, d5] => { results := [.lit (.bool false)], args := [d1, d2, d3, d4, d5] }
  | _ => none }
def IntervalActsWrongFalsely : Prop := intervalActsRow.holds Try.pinned (OpenSpec.ofChange intervalActsWrong)

/- THE SECOND FORM. 'bulk': how many values and letters a reading holds, each counted each time it is reached (what is shared counts as often as it is met; a slice's spare places count too). A statement '..UptoSaid' is the law's where the arguments, and the package variables that the reading takes, are together of bulk at most 1048576: NARROWER than '..Said'. Prove '..Said' where nothing that the law and all that it calls make is longer than what came in: it says more and counts as full. Else prove '..UptoSaid'. A law counts once. -/
mutual
def uptoBulk {H : Type} : DataW H → Nat
  | .lit (.string bytes) => bytes.length + 1
  | .lit _ => 1
  | .nil => 1
  | .ptr d => uptoBulk d + 1
  | .slice elems spare => uptoBulkAll elems + uptoBulkAll spare + 1
  | .agg parts => uptoBulkAll parts + 1
  | .iface _ d => uptoBulk d + 1
  | .map entries => uptoBulkEntries entries + 1
  | .held _ => 1
def uptoBulkAll {H : Type} : List (DataW H) → Nat
  | [] => 0
  | d :: r => uptoBulk d + uptoBulkAll r
def uptoBulkEntries {H : Type} : List (Lit × DataW H) → Nat
  | [] => 0
  | x :: r => uptoBulkEntry x + uptoBulkEntries r
def uptoBulkEntry {H : Type} : Lit × DataW H → Nat
  | (.string bytes, d) => bytes.length + uptoBulk d + 1
  | (_, d) => uptoBulk d + 1
 end
def uptoSmall : (H : Type) → List (DataW H) → Bool := fun _ ds => decide (uptoBulkAll ds ≤ 1048576)
def OpenSpec.upto (s : _root_.Go.ChangeSpec) : _root_.Go.OpenSpec := { _root_.Go.OpenSpec.ofChange s with cond := some uptoSmall }

/-- 'sectimelaw37.CertifiedActs', WHERE WHAT IT READS IS OF BULK AT MOST 1048576: true; the input reads as it did. -/
def certifiedActsUptoRow : OpenClaim := { program := "yteodoehhkhacoaa", sum := "3aaa06d7ebf01de19878688c3f350c49406a352dcb45e12950011e2b5c3cedc6", func := "sectime/sectimelaw37.CertifiedActs", spec := "certifiedActs", unfollowed := true, recurses := true, named := ["math/bits.divideError", "math/bits.overflowError"], apart := false, narrowed := true }
def CertifiedActsUptoSaid : Prop := certifiedActsUptoRow.holds Try.pinned (OpenSpec.upto certifiedActsSpec)

/-- 'sectimelaw37.CertifiedContainsTruth', WHERE WHAT IT READS IS OF BULK AT MOST 1048576: true; the input reads as it did. -/
def certifiedContainsTruthUptoRow : OpenClaim := { program := "yteodoehhkhacoaa", sum := "3aaa06d7ebf01de19878688c3f350c49406a352dcb45e12950011e2b5c3cedc6", func := "sectime/sectimelaw37.CertifiedContainsTruth", spec := "certifiedContainsTruth", unfollowed := true, recurses := true, named := ["math/bits.divideError", "math/bits.overflowError"], apart := false, narrowed := true }
def CertifiedContainsTruthUptoSaid : Prop := certifiedContainsTruthUptoRow.holds Try.pinned (OpenSpec.upto certifiedContainsTruthSpec)

/-- 'sectimelaw37.CertifiedNeverFallsBack', WHERE WHAT IT READS IS OF BULK AT MOST 1048576: true; the input reads as it did. -/
def certifiedNeverFallsBackUptoRow : OpenClaim := { program := "yteodoehhkhacoaa", sum := "3aaa06d7ebf01de19878688c3f350c49406a352dcb45e12950011e2b5c3cedc6", func := "sectime/sectimelaw37.CertifiedNeverFallsBack", spec := "certifiedNeverFallsBack", unfollowed := true, recurses := true, named := ["math/bits.divideError", "math/bits.overflowError"], apart := false, narrowed := true }
def CertifiedNeverFallsBackUptoSaid : Prop := certifiedNeverFallsBackUptoRow.holds Try.pinned (OpenSpec.upto certifiedNeverFallsBackSpec)

/-- 'sectimelaw37.CertifiedKeepsWhatItKnows', WHERE WHAT IT READS IS OF BULK AT MOST 1048576: true; the input reads as it did. -/
def certifiedKeepsWhatItKnowsUptoRow : OpenClaim := { program := "yteodoehhkhacoaa", sum := "3aaa06d7ebf01de19878688c3f350c49406a352dcb45e12950011e2b5c3cedc6", func := "sectime/sectimelaw37.CertifiedKeepsWhatItKnows", spec := "certifiedKeepsWhatItKnows", unfollowed := true, recurses := true, named := ["math/bits.divideError", "math/bits.overflowError"], apart := false, narrowed := true }
def CertifiedKeepsWhatItKnowsUptoSaid : Prop := certifiedKeepsWhatItKnowsUptoRow.holds Try.pinned (OpenSpec.upto certifiedKeepsWhatItKnowsSpec)

/-- 'sectimelaw11.IntervalLists', WHERE WHAT IT READS IS OF BULK AT MOST 1048576: true; the input reads as it did. -/
def intervalListsUptoRow : OpenClaim := { program := "yteodoehhkhacoaa", sum := "3aaa06d7ebf01de19878688c3f350c49406a352dcb45e12950011e2b5c3cedc6", func := "sectime/sectimelaw11.IntervalLists", spec := "intervalLists", unfollowed := true, recurses := true, apart := false, narrowed := true }
def IntervalListsUptoSaid : Prop := intervalListsUptoRow.holds Try.pinned (OpenSpec.upto intervalListsSpec)

/-- 'sectimelaw11.IntervalUnion', WHERE WHAT IT READS IS OF BULK AT MOST 1048576: true; the input reads as it did. -/
def intervalUnionUptoRow : OpenClaim := { program := "yteodoehhkhacoaa", sum := "3aaa06d7ebf01de19878688c3f350c49406a352dcb45e12950011e2b5c3cedc6", func := "sectime/sectimelaw11.IntervalUnion", spec := "intervalUnion", unfollowed := true, recurses := true, apart := false, narrowed := true }
def IntervalUnionUptoSaid : Prop := intervalUnionUptoRow.holds Try.pinned (OpenSpec.upto intervalUnionSpec)

/-- 'sectimelaw11.IntervalOrder', WHERE WHAT IT READS IS OF BULK AT MOST 1048576: true; the input reads as it did. -/
def intervalOrderUptoRow : OpenClaim := { program := "yteodoehhkhacoaa", sum := "3aaa06d7ebf01de19878688c3f350c49406a352dcb45e12950011e2b5c3cedc6", func := "sectime/sectimelaw11.IntervalOrder", spec := "intervalOrder", unfollowed := true, recurses := true, apart := false, narrowed := true }
def IntervalOrderUptoSaid : Prop := intervalOrderUptoRow.holds Try.pinned (OpenSpec.upto intervalOrderSpec)

/-- 'sectimelaw11.IntervalAlgebra', WHERE WHAT IT READS IS OF BULK AT MOST 1048576: true; the input reads as it did. -/
def intervalAlgebraUptoRow : OpenClaim := { program := "yteodoehhkhacoaa", sum := "3aaa06d7ebf01de19878688c3f350c49406a352dcb45e12950011e2b5c3cedc6", func := "sectime/sectimelaw11.IntervalAlgebra", spec := "intervalAlgebra", unfollowed := true, recurses := true, apart := false, narrowed := true }
def IntervalAlgebraUptoSaid : Prop := intervalAlgebraUptoRow.holds Try.pinned (OpenSpec.upto intervalAlgebraSpec)

/-- 'sectimelaw11.IntervalMeaning', WHERE WHAT IT READS IS OF BULK AT MOST 1048576: true; the input reads as it did. -/
def intervalMeaningUptoRow : OpenClaim := { program := "yteodoehhkhacoaa", sum := "3aaa06d7ebf01de19878688c3f350c49406a352dcb45e12950011e2b5c3cedc6", func := "sectime/sectimelaw11.IntervalMeaning", spec := "intervalMeaning", unfollowed := true, recurses := true, apart := false, narrowed := true }
def IntervalMeaningUptoSaid : Prop := intervalMeaningUptoRow.holds Try.pinned (OpenSpec.upto intervalMeaningSpec)

/-- 'sectimelaw11.IntervalActs', WHERE WHAT IT READS IS OF BULK AT MOST 1048576: true; the input reads as it did. -/
def intervalActsUptoRow : OpenClaim := { program := "yteodoehhkhacoaa", sum := "3aaa06d7ebf01de19878688c3f350c49406a352dcb45e12950011e2b5c3cedc6", func := "sectime/sectimelaw11.IntervalActs", spec := "intervalActs", unfollowed := true, recurses := true, apart := false, narrowed := true }
def IntervalActsUptoSaid : Prop := intervalActsUptoRow.holds Try.pinned (OpenSpec.upto intervalActsSpec)

end Rows
end Go.Proofs.Yteodoehhkhacoaa
