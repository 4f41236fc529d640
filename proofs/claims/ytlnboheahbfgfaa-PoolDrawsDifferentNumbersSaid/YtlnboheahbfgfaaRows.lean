/-
  No cell of these rows narrows 'for every input' (looked for: loops, veiled, ifaces, maps, wideKeys, modest, calm, conditions, laid).
  DERIVED. THE GIVEN ROWS OF THIS SEAT. 2 by the template 'for every input the law returns true; each argument reads behind the call as it read before'; 0 by the template 'total and deterministic' (their statements: YtlnboheahbfgfaaTotals.lean).
  GIVEN WITH THE SEED: the statements are not yours to turn. If you find one false, say at which input.
  Laid BY PROGRAM, IN A SANDBOX (cutbox-rows.mjs): the forced cells as the released guide's own fill.sh prints them over the translation 7577a7b6e3b123d5… (all of the seat's roots in one cut). By AI agents, Wed Nov 11 2026. No macro, syntax, notation, axiom, sorry.
-/
import Derived.Test.YtlnboheahbfgfaaChecked
import GoSem.Claim
import GoSem.ClaimJoined
import GoSem.ClaimMapViews
import Derived.JoinedTies
import Derived.KernelRfl
namespace Go.Proofs.Ytlnboheahbfgfaa
/- THE CELL 'sum', in the pinned program and in every row, IS THE sha256 OF THE DUMP (.gsa) THAT YtlnboheahbfgfaaProg.lean LOADS. Nothing in Lean hashes anything: it is a label: what it is worth is what the hold of that sum in a sandbox is worth. -/
noncomputable def Try.pinned : Pinned := { name := "ytlnboheahbfgfaa", sum := "7577a7b6e3b123d51dbde59843de8a0914ca5185017a7b20e17366c573988d5a", checked := Try.checked }
namespace Rows
def none {H : Type} : Left H := { results := [], args := [] }

/-- 'sectimelaw36.PoolDraws': WHATEVER THE INPUT: true; the input reads as it did. -/
def poolDrawsSpec : ChangeSpec := { name := "poolDraws", fn := fun _ => fun
  | [d1, d2, d3, d4] => { results := [.lit (.bool true)], args := [d1, d2, d3, d4] }
  | _ => none }
def poolDrawsRow : OpenClaim := { program := "ytlnboheahbfgfaa", sum := "7577a7b6e3b123d51dbde59843de8a0914ca5185017a7b20e17366c573988d5a", func := "sectime/sectimelaw36.PoolDraws", spec := "poolDraws", apart := false }
def PoolDrawsSaid : Prop := poolDrawsRow.holds Try.pinned (OpenSpec.ofChange poolDrawsSpec)

/-- ITS FALSE NEIGHBOUR: 'it returns false'. Refute it at one input. -/
def poolDrawsWrong : ChangeSpec := { name := "poolDraws", fn := fun _ => fun
  | [d1, d2, d3, d4] => { results := [.lit (.bool false)], args := [d1, d2, d3, d4] }
  | _ => none }
def PoolDrawsWrongFalsely : Prop := poolDrawsRow.holds Try.pinned (OpenSpec.ofChange poolDrawsWrong)

/-- 'sectimelaw36.PoolDrawsDifferentNumbers': WHATEVER THE INPUT: true; the input reads as it did. -/
def poolDrawsDifferentNumbersSpec : ChangeSpec := { name := "poolDrawsDifferentNumbers", fn := fun _ => fun
  | [d1, d2, d3] => { results := [.lit (.bool true)], args := [d1, d2, d3] }
  | _ => none }
def poolDrawsDifferentNumbersRow : OpenClaim := { program := "ytlnboheahbfgfaa", sum := "7577a7b6e3b123d51dbde59843de8a0914ca5185017a7b20e17366c573988d5a", func := "sectime/sectimelaw36.PoolDrawsDifferentNumbers", spec := "poolDrawsDifferentNumbers", apart := false }
def PoolDrawsDifferentNumbersSaid : Prop := poolDrawsDifferentNumbersRow.holds Try.pinned (OpenSpec.ofChange poolDrawsDifferentNumbersSpec)

/-- ITS FALSE NEIGHBOUR: 'it returns false'. Refute it at one input. -/
def poolDrawsDifferentNumbersWrong : ChangeSpec := { name := "poolDrawsDifferentNumbers", fn := fun _ => fun
  | [d1, d2, d3] => { results := [.lit (.bool false)], args := [d1, d2, d3] }
  | _ => none }
def PoolDrawsDifferentNumbersWrongFalsely : Prop := poolDrawsDifferentNumbersRow.holds Try.pinned (OpenSpec.ofChange poolDrawsDifferentNumbersWrong)

/- THE SECOND FORM. 'bulk': how many values and letters a reading holds, each counted each time it is reached (what is shared counts as often as it is met; a slice's spare places count too). A statement '..UptoSaid' is the law's where the arguments, and the package variables that the reading takes, are together of bulk at most 1048576: NARROWER than '..Said'. Prove '..Said' where nothing that the law and all that it calls make is longer than what came in: it says more and counts as full. Else prove '..UptoSaid'. A law counts once. -/
mutual
def uptoBulk {H : Type} : DataW H → Nat
  | .lit (.string bytes) => bytes.length + 1
  | .lit _ => 1
  | .nil => 1
  | .ptr d => uptoBulk d + 1
  | .slice elems spare => uptoBulkAll elems + uptoBulkAll spare + 1
  | .agg parts => uptoBulkAll parts + 1
  | .iface _ d => uptoBulk d + 1
  | .map entries => uptoBulkEntries entries + 1
  | .held _ => 1
def uptoBulkAll {H : Type} : List (DataW H) → Nat
  | [] => 0
  | d :: r => uptoBulk d + uptoBulkAll r
def uptoBulkEntries {H : Type} : List (Lit × DataW H) → Nat
  | [] => 0
  | x :: r => uptoBulkEntry x + uptoBulkEntries r
def uptoBulkEntry {H : Type} : Lit × DataW H → Nat
  | (.string bytes, d) => bytes.length + uptoBulk d + 1
  | (_, d) => uptoBulk d + 1
 end
def uptoSmall : (H : Type) → List (DataW H) → Bool := fun _ ds => decide (uptoBulkAll ds ≤ 1048576)
def OpenSpec.upto (s : _root_.Go.ChangeSpec) : _root_.Go.OpenSpec := { _root_.Go.OpenSpec.ofChange s with cond := some uptoSmall }

/-- 'sectimelaw36.PoolDraws', WHERE WHAT IT READS IS OF BULK AT MOST 1048576: true; the input reads as it did. -/
def poolDrawsUptoRow : OpenClaim := { program := "ytlnboheahbfgfaa", sum := "7577a7b6e3b123d51dbde59843de8a0914ca5185017a7b20e17366c573988d5a", func := "sectime/sectimelaw36.PoolDraws", spec := "poolDraws", apart := false, narrowed := true }
def PoolDrawsUptoSaid : Prop := poolDrawsUptoRow.holds Try.pinned (OpenSpec.upto poolDrawsSpec)

/-- 'sectimelaw36.PoolDrawsDifferentNumbers', WHERE WHAT IT READS IS OF BULK AT MOST 1048576: true; the input reads as it did. -/
def poolDrawsDifferentNumbersUptoRow : OpenClaim := { program := "ytlnboheahbfgfaa", sum := "7577a7b6e3b123d51dbde59843de8a0914ca5185017a7b20e17366c573988d5a", func := "sectime/sectimelaw36.PoolDrawsDifferentNumbers", spec := "poolDrawsDifferentNumbers", apart := false, narrowed := true }
def PoolDrawsDifferentNumbersUptoSaid : Prop := poolDrawsDifferentNumbersUptoRow.holds Try.pinned (OpenSpec.upto poolDrawsDifferentNumbersSpec)

end Rows
end Go.Proofs.Ytlnboheahbfgfaa
