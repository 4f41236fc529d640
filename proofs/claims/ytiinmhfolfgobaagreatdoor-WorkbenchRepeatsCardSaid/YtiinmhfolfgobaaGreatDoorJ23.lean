/- Texts joined: Spans, Law34S -/
import Derived.Deep.AppendLies
import Derived.Deep.LoopGhost
import Derived.OwnWalk
import Derived.Test.YtiinmhfolfgobaaGreatDoorJ9
import Derived.Test.YtiinmhfolfgobaaGreatDoorRUnW
import Derived.Test.YtiinmhfolfgobaaGreatDoorJ18
namespace Go.Proofs.YtiinmhfolfgobaaGreatDoor
open Go.RowKit Go.Shelf Go.Sort
set_option linter.unusedSimpArgs false
set_option linter.unusedVariables false

def SmallS (most : Int) (zs : List (Int × Int)) : Prop := ∀ z ∈ zs, -most ≤ z.1 ∧ z.1 ≤ most ∧ z.1 ≤ z.2 ∧ z.2 ≤ z.1 + most
end Go.Proofs.YtiinmhfolfgobaaGreatDoor
namespace Go.Proofs.YtiinmhfolfgobaaGreatDoor
open Go.RowKit Go.Shelf Go.Sort
theorem SmallS.set {most : Int} {zs : List (Int × Int)} (h : SmallS most zs) (p k : Nat) (hk : k < zs.length) : SmallS most (zs.set p (zs.getD k (0, 0))) := fun z hz => by
  rcases List.mem_or_eq_of_mem_set hz with hz | rfl
  · exact h z hz
  · exact h _ (by rw [List.getD_eq_getElem?_getD, List.getElem?_eq_getElem hk]; exact List.getElem_mem _)
theorem SmallS.swap {most : Int} {zs : List (Int × Int)} (h : SmallS most zs) (p k : Nat) (hp : p < zs.length) (hk : k < zs.length) : SmallS most ((zs.set p (zs.getD k (0, 0))).set k (zs.getD p (0, 0))) := fun z hz => by
  rcases List.mem_or_eq_of_mem_set hz with hz | rfl
  · exact h.set p k hk z hz
  · exact h _ (by rw [List.getD_eq_getElem?_getD, List.getElem?_eq_getElem hp]; exact List.getElem_mem _)
theorem RowS.below {w w' : World} {base : Nat} {v : Value} {zs : List (Int × Int)} (h : RowS w base v zs) (hb : Below w.heap.size w w') : RowS w' base v zs := RowS.kept h (row := none) (grown_below hb) (fun k _ e => by cases e)
/-- Spans in a block of one's own. -/
def OsAt (w : World) (g : Nat) (os : List (Int × Int)) : Prop := ∃ cur : Array Value, Blk w g 40 cur ∧ ∀ j, j < os.length → cur[j * 2]? = some (.int .i64 (os.getD j (0, 0)).1) ∧ cur[j * 2 + 1]? = some (.int .i64 (os.getD j (0, 0)).2)
theorem OsAt.below {w w' : World} {g : Nat} {os : List (Int × Int)} (h : OsAt w g os) (hb : Below w.heap.size w w') : OsAt w' g os := by
  obtain ⟨cur, hB, hc⟩ := h
  exact ⟨cur, Blk.keep hb hB, hc⟩
theorem OsAt.gb {w w' : World} {g b : Nat} {os : List (Int × Int)} (h : OsAt w g os) (hb : w.grownBy w' (some b)) (hn : g ≠ b) : OsAt w' g os := by
  obtain ⟨cur, hB, hc⟩ := h
  exact ⟨cur, Blk.keepG hb hB hn, hc⟩
theorem OsAt.spans {w : World} {g : Nat} {os : List (Int × Int)} (h : OsAt w g os) (hl : os.length ≤ 9223372036854775807) : SpansAt w (some ⟨g, 0, none⟩) os.length os := by
  obtain ⟨cur, hB, hc⟩ := h
  refine ⟨rfl, hl, fun _ => ⟨g, 0, rfl, hB.lt, fun j hj => ?_⟩⟩
  have := hB.cell
  rw [Nat.zero_add, this, this]
  exact hc j hj
theorem OsAt.set {w : World} {g : Nat} {os : List (Int × Int)} (h : OsAt w g os) (p : Nat) (y : Int × Int) (hp : p < os.length) : OsAt ((w.setCell ⟨g, p * 2, none⟩ (.int .i64 y.1)).setCell ⟨g, p * 2 + 1, none⟩ (.int .i64 y.2)) g (os.set p y) := by
  obtain ⟨cur, hB, hc⟩ := h
  refine ⟨_, (hB.set_ (p * 2) (.int .i64 y.1)).set_ (p * 2 + 1) (.int .i64 y.2), fun j hj => ?_⟩
  rw [List.length_set] at hj
  obtain ⟨h1, h2⟩ := hc j hj
  have s1 : p * 2 + 1 < cur.size := (Array.getElem?_eq_some_iff.1 (hc p hp).2).1
  rw [List.getD_eq_getElem?_getD, List.getElem?_set]
  by_cases e : p = j
  · subst e
    rw [if_pos rfl, if_pos hp]
    exact ⟨by rw [Array.getElem?_setIfInBounds_ne (by omega), Array.getElem?_setIfInBounds_self_of_lt (by omega)]; rfl, by rw [Array.getElem?_setIfInBounds_self_of_lt (by rw [Array.size_setIfInBounds]; exact s1)]; rfl⟩
  · rw [if_neg e, ← List.getD_eq_getElem?_getD]
    exact ⟨by rw [Array.getElem?_setIfInBounds_ne (by omega), Array.getElem?_setIfInBounds_ne (by omega)]; exact h1, by rw [Array.getElem?_setIfInBounds_ne (by omega), Array.getElem?_setIfInBounds_ne (by omega)]; exact h2⟩
theorem OsAt.cells {w : World} {g : Nat} {os : List (Int × Int)} (h : OsAt w g os) (j : Nat) (hj : j < os.length) : g < w.heap.size ∧ w.cell? ⟨g, j * 2, none⟩ = some (.int .i64 (os.getD j (0, 0)).1) ∧ w.cell? ⟨g, j * 2 + 1, none⟩ = some (.int .i64 (os.getD j (0, 0)).2) ∧ (∀ i, w.frozen? ⟨g, i, none⟩ = false) := by
  obtain ⟨cur, hB, hc⟩ := h
  have := hB.cell
  exact ⟨hB.lt, (this _).trans (hc j hj).1, (this _).trans (hc j hj).2, hB.frozen⟩
end Go.Proofs.YtiinmhfolfgobaaGreatDoor
