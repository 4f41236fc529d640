/- Tables of leap seconds and smeared clocks (plain), and how a table lies in memory. -/
import Derived.Test.YtmebkbnildjfhaaKit
import Derived.Test.YtmebkbnildjfhaaExact
import Derived.Test.YtmebkbnildjfhaaRound
import Derived.Test.YtmebkbnildjfhaaFrame
namespace Go.Proofs.Ytmebkbnildjfhaa
open Go.RowKit
set_option linter.unusedSimpArgs false
set_option linter.unusedVariables false

/-- A list of pairs of numbers in memory. -/
def PrAt (w : World) (A : Option Addr) (len : Nat) (zs : List (Int × Int)) : Prop :=
  zs.length = len ∧ len ≤ 9223372036854775807 ∧ (0 < len → ∃ b off, A = some ⟨b, off, none⟩ ∧ b < w.heap.size ∧ ∀ j, j < len → w.cell? ⟨b, off + j * 2, none⟩ = some (.int .i64 (zs.getD j (0, 0)).1) ∧ w.cell? ⟨b, off + j * 2 + 1, none⟩ = some (.int .i64 (zs.getD j (0, 0)).2))
theorem PrAt.below {w w' : World} {A : Option Addr} {len : Nat} {zs : List (Int × Int)} (h : PrAt w A len zs) (hb : Below w.heap.size w w') : PrAt w' A len zs := by
  obtain ⟨h1, h2, h3⟩ := h
  refine ⟨h1, h2, fun hl => ?_⟩
  obtain ⟨b, off, rfl, hlt, hc⟩ := h3 hl
  exact ⟨b, off, rfl, Nat.lt_of_lt_of_le hlt hb.size, fun j hj => ⟨cell_below hb (hc j hj).1, cell_below hb (hc j hj).2⟩⟩
theorem PrAt.alloc {w : World} {A : Option Addr} {len : Nat} {zs : List (Int × Int)} (h : PrAt w A len zs) (o : Obj) : PrAt (w.alloc o) A len zs := h.below ((Below.refl _ _).alloc (Nat.le_refl _) _)
/-- What stands ahead of element i: the offset, the second. -/
def oldL (first : Int) (zs : List (Int × Int)) (i : Nat) : Int := if i = 0 then first else (zs.getD (i - 1) (0, 0)).2
def prevL (zs : List (Int × Int)) (i : Nat) : Int := if i = 0 then -86400 else (zs.getD (i - 1) (0, 0)).1
def chkL (first : Int) (zs : List (Int × Int)) (i : Nat) : Prop :=
  (zs.getD i (0, 0)).1 % 86400 = 0 ∧ prevL zs i + 172800 ≤ (zs.getD i (0, 0)).1 ∧ (zs.getD i (0, 0)).1 ≤ 137438953472 ∧ ((zs.getD i (0, 0)).2 = oldL first zs i + 1 ∨ (zs.getD i (0, 0)).2 = oldL first zs i - 1)
instance (first : Int) (zs : List (Int × Int)) (i : Nat) : Decidable (chkL first zs i) := by unfold chkL; infer_instance
/-- A table. -/
def LVal (first : Int) (zs : List (Int × Int)) : Prop := 0 ≤ first ∧ first ≤ 100 ∧ zs.length ≤ 64 ∧ ∀ i, i < zs.length → chkL first zs i
instance (first : Int) (zs : List (Int × Int)) : Decidable (LVal first zs) := by unfold LVal; infer_instance
def lvB (first : Int) (zs : List (Int × Int)) : Bool := decide (LVal first zs)
theorem lvB_true {first : Int} {zs : List (Int × Int)} : lvB first zs = true ↔ LVal first zs := by simp [lvB]
theorem lvB_no {first : Int} {zs : List (Int × Int)} (h : ¬ LVal first zs) : lvB first zs = false := by simp [lvB, h]
section
variable {first : Int} {zs : List (Int × Int)}
theorem old_bound {q : Nat} (h : ∀ i, i < q → chkL first zs i) : first - q ≤ oldL first zs q ∧ oldL first zs q ≤ first + q := by
  induction q with
  | zero => simp [oldL]
  | succ q ih =>
    have h1 := ih (fun i hi => h i (by omega))
    have h2 := (h q (by omega)).2.2.2
    have e : oldL first zs (q + 1) = (zs.getD q (0, 0)).2 := by simp [oldL]
    rw [e]; omega
theorem prev_bound {q : Nat} (h : ∀ i, i < q → chkL first zs i) : -86400 ≤ prevL zs q ∧ prevL zs q ≤ 137438953472 := by
  induction q with
  | zero => simp [prevL]
  | succ q ih =>
    have h1 := ih (fun i hi => h i (by omega))
    have h2 := h q (by omega)
    have e : prevL zs (q + 1) = (zs.getD q (0, 0)).1 := by simp [prevL]
    rw [e]; obtain ⟨_, a, b, _⟩ := h2; omega
theorem oldL_succ (q : Nat) : oldL first zs (q + 1) = (zs.getD q (0, 0)).2 := by simp [oldL]
theorem prevL_succ (q : Nat) : prevL zs (q + 1) = (zs.getD q (0, 0)).1 := by simp [prevL]
theorem step_off {y lo : Int} (hy : IntIn y) (h0 : -200 ≤ lo) (h1 : lo ≤ 200) : (IntKind.i64.wrap (y - lo) = 1 ↔ y = lo + 1) ∧ (IntKind.i64.wrap (y - lo) = -1 ↔ y = lo - 1) := by
  unfold IntIn at hy
  have e : IntKind.i64.wrap (y - lo) = (y - lo + 9223372036854775808) % 18446744073709551616 - 9223372036854775808 := by simp [IntKind.wrap, IntKind.bits, IntKind.signed]; split <;> omega
  rw [e]
  constructor <;> constructor <;> intro h <;> omega
end
/-- The window of element i: what is shown, the instants. -/
def wsLo (zs : List (Int × Int)) (i : Nat) : Int := ((zs.getD i (0, 0)).1 - 43200) * 1048576
def wsHi (zs : List (Int × Int)) (i : Nat) : Int := ((zs.getD i (0, 0)).1 + 43200) * 1048576
def wiLo (first : Int) (zs : List (Int × Int)) (i : Nat) : Int := wsLo zs i + oldL first zs i * 1048576
def wiHi (zs : List (Int × Int)) (i : Nat) : Int := wsHi zs i + (zs.getD i (0, 0)).2 * 1048576
/-- What the clock shows, by the first k elements. -/
def shAt (first : Int) (zs : List (Int × Int)) (t : Int) : Nat → Int
  | 0 => t - first * 1048576
  | k + 1 => if wiHi zs k ≤ t then t - (zs.getD k (0, 0)).2 * 1048576 else if wiLo first zs k ≤ t then wsLo zs k + quo (t - wiLo first zs k) 86400 (86400 + (zs.getD k (0, 0)).2 - oldL first zs k) false else shAt first zs t k
def shL (first : Int) (zs : List (Int × Int)) (t : Int) : Int := shAt first zs t zs.length
section
variable {first : Int} {zs : List (Int × Int)}
theorem LVal.off (h : LVal first zs) {i : Nat} (hi : i ≤ zs.length) : -64 ≤ oldL first zs i ∧ oldL first zs i ≤ 164 := by
  have := old_bound (first := first) (zs := zs) (q := i) (fun j hj => h.2.2.2 j (by omega))
  have h1 := h.1; have h2 := h.2.1; have h3 := h.2.2.1
  omega
theorem LVal.at_ (h : LVal first zs) {i : Nat} (hi : i < zs.length) : 86400 ≤ (zs.getD i (0, 0)).1 ∧ (zs.getD i (0, 0)).1 ≤ 137438953472 ∧ -64 ≤ (zs.getD i (0, 0)).2 ∧ (zs.getD i (0, 0)).2 ≤ 164 ∧ ((zs.getD i (0, 0)).2 = oldL first zs i + 1 ∨ (zs.getD i (0, 0)).2 = oldL first zs i - 1) := by
  have h1 := h.off (i := i + 1) (by omega)
  rw [oldL_succ] at h1
  have h2 := h.2.2.2 i hi
  have h3 := prev_bound (first := first) (zs := zs) (q := i) (fun j hj => h.2.2.2 j (by omega))
  obtain ⟨_, a, b, c⟩ := h2
  exact ⟨by omega, b, h1.1, h1.2, c⟩
/-- The windows ascend. -/
theorem LVal.asc (h : LVal first zs) {i : Nat} (hi : i + 1 < zs.length) : wiHi zs i + 86400 * 1048576 ≤ wiLo first zs (i + 1) := by
  have h2 := (h.2.2.2 (i + 1) hi).2.1
  rw [prevL_succ] at h2
  unfold wiHi wiLo wsHi wsLo
  rw [oldL_succ]
  omega
theorem LVal.win (h : LVal first zs) {i : Nat} (hi : i < zs.length) : wiLo first zs i + 86399 * 1048576 ≤ wiHi zs i := by
  have h2 := (h.at_ hi).2.2.2.2
  unfold wiHi wiLo wsHi wsLo
  omega
end
end Go.Proofs.Ytmebkbnildjfhaa
