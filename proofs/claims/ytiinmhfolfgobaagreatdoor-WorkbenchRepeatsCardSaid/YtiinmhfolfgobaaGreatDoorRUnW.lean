/- The reference's Union, for every list. -/
import Derived.BigQuiet
import Derived.Deep.AppendLies
import Derived.Deep.LoopGhost
import Derived.Deep.QuietTactic
import Derived.Laws.AppendOwnNone
import Derived.OwnWalk
import Derived.Test.YtiinmhfolfgobaaGreatDoorJ8
import Derived.Test.YtiinmhfolfgobaaGreatDoorJ14
namespace Go.Proofs.YtiinmhfolfgobaaGreatDoor
open Go.RowKit Go.Shelf Go.Sort
set_option linter.unusedSimpArgs false
set_option linter.unusedVariables false

/-- A row of spans of one's own. -/
def RowS (w : World) (base : Nat) (v : Value) (zs : List (Int × Int)) : Prop := w.ownsRow base 40 2 v zs.length (cellsS zs)
theorem RowS.form {w : World} {base : Nat} {v : Value} {zs : List (Int × Int)} (h : RowS w base v zs) (hl : 0 < zs.length) : ∃ g cap, v = .slice (some ⟨g, 0, none⟩) zs.length cap ∧ base ≤ g ∧ g < w.heap.size ∧ (∀ j, j < zs.length → w.cell? ⟨g, j * 2, none⟩ = some (.int .i64 (zs.getD j (0, 0)).1) ∧ w.cell? ⟨g, j * 2 + 1, none⟩ = some (.int .i64 (zs.getD j (0, 0)).2)) := by
  obtain ⟨g, c, e, h1, h2⟩ := World.ownsRow.form h hl
  subst e
  refine ⟨g, c, rfl, h1, h2, fun j hj => ?_⟩
  obtain ⟨a1, a2⟩ := cellsS_get zs j hj
  refine ⟨?_, ?_⟩
  · rw [World.ownsRow.cellAt h _ (by omega)]; exact a1
  · rw [World.ownsRow.cellAt h _ (by omega)]; exact a2
theorem RowS.len {w : World} {base : Nat} {v : Value} {zs : List (Int × Int)} (h : RowS w base v zs) : ∃ A cap, v = .slice A zs.length cap := by
  obtain ⟨-, ⟨e, hn⟩ | ⟨g, cap, cur, e, -⟩⟩ := h
  · exact ⟨none, 0, by rw [e, hn]⟩
  · exact ⟨_, _, e⟩
theorem RowS.nil {w : World} {base : Nat} : RowS w base (.slice none 0 0) [] := World.ownsRow_nil _ _ _ _
theorem RowS.kept {w w' : World} {base : Nat} {v : Value} {zs : List (Int × Int)} {row : Option Nat} (h : RowS w base v zs) (hg : w.grownBy w' row) (hn : ∀ k, v.ownBlock = some k → some k ≠ row) : RowS w' base v zs :=
  World.ownsRow.kept h hg (by
    cases hv : v.ownBlock with
    | none => exact .inl rfl
    | some k => exact .inr (hn k hv))
theorem RowS.lt {w : World} {base : Nat} {v : Value} {zs : List (Int × Int)} (h : RowS w base v zs) : ∀ k, v.ownBlock = some k → base ≤ k ∧ k < w.heap.size := World.ownsRow.lt h
theorem RowS.alloc {w : World} {base : Nat} {v : Value} {zs : List (Int × Int)} (h : RowS w base v zs) (o : Obj) : RowS (w.alloc o) base v zs := World.ownsRow.alloc h o
theorem RowS.drewN {w : World} {base : Nat} {v : Value} {zs : List (Int × Int)} (h : RowS w base v zs) (n : Nat) : RowS (w.drewN n) base v zs := h
theorem set_grown (w : World) (g k : Nat) (u : Value) : w.grownBy (w.setCell ⟨g, k, none⟩ u) (some g) := ⟨rfl, rfl, rfl, by simp [World.setCell], fun kk hk hn => Below.heap_setCell _ _ _ _ (fun e => hn (by rw [e]))⟩
theorem spans_of_row {w : World} {base : Nat} {A : Option Addr} {cap : Nat} {zs : List (Int × Int)} (h : RowS w base (.slice A zs.length cap) zs) (hm : zs.length ≤ 9223372036854775807) : SpansAt w A zs.length zs := spans_of_own h hm
end Go.Proofs.YtiinmhfolfgobaaGreatDoor
