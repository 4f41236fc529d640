/- Walks: the reference's choose, Choose, Risk; the sanity check. -/
import Derived.Deep.AppendLies
import Derived.Deep.RegionHeld3
import Derived.Test.YtlfkkfdolnkjfaaJ22
namespace Go.Proofs.Ytlfkkfdolnkjfaa
open Go.RowKit

theorem known36_any (w : World) :
    Calls Try.prog 50 #[] w fun e w' => e = .returned (.bool true) ∧ Below w.heap.size w w' := by
  have e1 : chooseN 5 2 = (10, 0) := by decide
  have e2 : riskN 5 2 3 1 = (3, 10, 0) := by decide
  go_enter Try.func50, Try.ntmps50
  go_wp2_with (first | (go_at_call 90; refine (choose_any _ _ _).mono ?_; rintro e w1 ⟨rfl, hb1⟩) | (go_at_call 91; refine (risk_any _ _ _ _ _).mono ?_; rintro e w2 ⟨rfl, hb2⟩))
  go_ret
  exact ⟨rfl, hb1.trans (hb2.mono hb1.size)⟩

/-- The row of the reference: i + 1 numbers of the triangle. -/
def triRow (i : Nat) : List Value := (List.range (i + 1)).map fun m => Value.int .i64 (bin i m)
/-- The next row, its first j numbers. -/
def triNext (i j : Nat) : List Value := (List.range j).map fun m => Value.int .i64 (bin (i + 1) m)
theorem triRow_len (i : Nat) : (triRow i).length = i + 1 := by simp [triRow]
theorem triRow_at (i m : Nat) (h : m < i + 1) : (triRow i)[m]? = some (.int .i64 (bin i m)) := by simp [triRow, h]
theorem triNext_snoc (i j : Nat) : triNext i j ++ [.int .i64 (bin (i + 1) j)] = triNext i (j + 1) := by simp [triNext, List.range_succ]
theorem triNext_end (i : Nat) : triNext i (i + 1) ++ [.int .i64 1] = triRow (i + 1) := by
  have h : bin (i + 1) (i + 1) = 1 := bin_self (i + 1)
  have e := triNext_snoc i (i + 1)
  rw [h] at e
  exact e
theorem triNext_one (i : Nat) : triNext i 1 = [.int .i64 1] := by simp [triNext, bin_zero]
theorem triRow_zero : triRow 0 = [.int .i64 1] := by simp [triRow, bin_zero]

/-- What an owned row gives at one place. -/
theorem owns_cell {w : World} {base : Nat} {e : TypeId} {n g cap : Nat} {xs : List Value} (h : w.ownsRow base e 1 (.slice (some ⟨g, 0, none⟩) n cap) n xs) (m : Nat) (v : Value) (hm : xs[m]? = some v) :
    w.cell? ⟨g, m, none⟩ = some v := by
  have := h.cells (g := g) rfl m v hm
  have hadd : (⟨g, 0, none⟩ : Addr).add m = ⟨g, m, none⟩ := by unfold Addr.add; split <;> simp_all
  rwa [hadd] at this

theorem owns_lt {w : World} {base : Nat} {e : TypeId} {n g cap : Nat} {xs : List Value} (h : w.ownsRow base e 1 (.slice (some ⟨g, 0, none⟩) n cap) n xs) : g < w.heap.size :=
  (h.lt g rfl).2
theorem owns_base {w : World} {base : Nat} {e : TypeId} {n g cap : Nat} {xs : List Value} (h : w.ownsRow base e 1 (.slice (some ⟨g, 0, none⟩) n cap) n xs) : base ≤ g :=
  (h.lt g rfl).1
/-- A literal slice of one number. -/
theorem owns_lit {w : World} {base : Nat} {e : TypeId} (x : Value) (hb : base ≤ w.heap.size) :
    (w.alloc (.cells #[x] e)).ownsRow base e 1 (.slice (some ⟨w.heap.size, 0, none⟩) 1 1) 1 [x] :=
  ⟨rfl, .inr ⟨w.heap.size, 1, #[x], rfl, hb, heap_alloc_new w _, Nat.le_refl _, by unfold maxLen; omega, rfl, rfl⟩⟩
/-- Behind an append to another row. -/
theorem owns_far {w w' : World} {base : Nat} {e : TypeId} {n g cap g' : Nat} {xs : List Value} (h : w.ownsRow base e 1 (.slice (some ⟨g, 0, none⟩) n cap) n xs)
    (hg : w.grownBy w' (some g')) (hne : g' ≠ g) : w'.ownsRow base e 1 (.slice (some ⟨g, 0, none⟩) n cap) n xs :=
  h.kept hg (.inr (by simp [Value.ownBlock]; omega))

/-- An append lies apart from another row. -/
theorem lies_ne {g' gg H g n cap : Nat} (hat : (Value.slice (some ⟨g', 0, none⟩) n cap).ownBlock = some gg ∨ gg = H) (h1 : g' ≠ g) (h2 : g < H) : gg ≠ g := by
  rcases hat with h | h
  · simp [Value.ownBlock] at h; omega
  · omega
/-- The rounds' relations, behind names. -/
def OuterRel (w : World) (n : Nat) (r i : Value) (wr : World) : Prop :=
  ∃ q g cap : Nat, q ≤ n ∧ i = .int .i64 q ∧ r = .slice (some ⟨g, 0, none⟩) (q + 1) cap ∧ wr.ownsRow w.heap.size 3 1 (.slice (some ⟨g, 0, none⟩) (q + 1) cap) (q + 1) (triRow q) ∧ Below w.heap.size w wr
def InnerRel (w : World) (q g cap : Nat) (nx j : Value) (wx : World) : Prop :=
  ∃ p g' cap' : Nat, p ≤ q ∧ j = .int .i64 ((p : Int) + 1) ∧ nx = .slice (some ⟨g', 0, none⟩) (p + 1) cap' ∧ wx.ownsRow w.heap.size 3 1 (.slice (some ⟨g', 0, none⟩) (p + 1) cap') (p + 1) (triNext q (p + 1)) ∧
    wx.ownsRow w.heap.size 3 1 (.slice (some ⟨g, 0, none⟩) (q + 1) cap) (q + 1) (triRow q) ∧ g' ≠ g ∧ Below w.heap.size w wx

end Go.Proofs.Ytlfkkfdolnkjfaa
