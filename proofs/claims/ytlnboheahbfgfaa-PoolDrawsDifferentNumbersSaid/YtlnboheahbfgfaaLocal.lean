/- sectimecase.local: an advance that fits. -/
import Derived.Test.YtlnboheahbfgfaaFitsR
import Derived.Test.YtlnboheahbfgfaaDriftR
import Derived.Test.YtlnboheahbfgfaaKit
import Derived.Test.YtlnboheahbfgfaaTape
import Derived.Deep.LoopGhost
import Derived.Deep.DeepCutAuto
import Derived.Deep.QuietTactic
import Derived.BigQuiet
namespace Go.Proofs.Ytlnboheahbfgfaa
open Go.RowKit
set_option linter.unusedSimpArgs false
set_option linter.unusedVariables false

theorem fits_self {e p : Int} (h : inD e p = true) : fitsP e e p := by
  obtain ⟨h1, h2, h3, h4⟩ := inD_true.1 h
  have : e * (1000000000 - p) ≤ e * 1000000000 := Int.mul_le_mul_of_nonneg_left (by omega) h1
  have : e * 1000000000 ≤ e * (1000000000 + p) := Int.mul_le_mul_of_nonneg_left (by omega) h1
  exact ⟨⟨by omega, by omega, by omega, by omega, by omega, by omega⟩, by omega, by omega⟩
theorem fits_between {e a b c p : Int} (h : fitsP e a p) (h' : fitsP e b p) (h1 : a ≤ c) (h2 : c ≤ b) : fitsP e c p := by
  obtain ⟨⟨a1, a2, a3, a4, a5, a6⟩, a7, a8⟩ := h
  obtain ⟨⟨b1, b2, b3, b4, b5, b6⟩, b7, b8⟩ := h'
  exact ⟨⟨by omega, by omega, by omega, by omega, by omega, by omega⟩, by omega, by omega⟩
theorem ad_small {e p : Int} (h0 : 0 ≤ e) (h1 : e ≤ 3000000) (p0 : 0 ≤ p) (p1 : p ≤ 1000000) : 0 ≤ adLo e p ∧ adLo e p ≤ e ∧ e ≤ adHi e p ∧ adHi e p ≤ 3003001 := by
  have a1 : e * (1000000000 - p) ≤ e * 1000000000 := Int.mul_le_mul_of_nonneg_left (by omega) h0
  have a2 : e * 1000000000 ≤ e * (1000000000 + p) := Int.mul_le_mul_of_nonneg_left (by omega) h0
  have a3 : 0 ≤ e * (1000000000 - p) := Int.mul_nonneg h0 (by omega)
  have a4 : e * (1000000000 + p) ≤ e * 1001000000 := Int.mul_le_mul_of_nonneg_left (by omega) h0
  unfold adLo adHi quo
  simp only [Bool.false_eq_true, if_false, if_true]
  omega
def LocRel1 (w : World) (e lo0 : Int) (G : Nat) (i : Value) (wr : World) : Prop := ∃ a : Int, lo0 ≤ a ∧ a ≤ e ∧ G = (e - a).toNat ∧ i = .int .i64 a ∧ Below w.heap.size w wr
def LocRel2 (w : World) (e hi0 : Int) (G : Nat) (j : Value) (wr : World) : Prop := ∃ a : Int, e ≤ a ∧ a ≤ hi0 ∧ G = (a - e).toNat ∧ j = .int .i64 a ∧ Below w.heap.size w wr
end Go.Proofs.Ytlnboheahbfgfaa
