/- The frame of the laws whose rows list tables: from a law's walk to the row's statement. -/
import Derived.Handed
import Derived.Lib.LaidIn
import Derived.Lib.LaidTab
import Derived.MakeChecks
import Derived.Shelf.Strconv.Itoa3
import Derived.Test.YtiinmhfolfgobaaGreatDoorCards
import Derived.Test.YtiinmhfolfgobaaGreatDoorJ1
import Derived.Test.YtiinmhfolfgobaaGreatDoorTie
set_option linter.unusedVariables false
set_option linter.unusedSimpArgs false
namespace Go.Proofs.YtiinmhfolfgobaaGreatDoor
open Go.ChangeShapes Go.WideShapes Go.ChangeAt Go.RowKit Go.Deep Go.Lib
def z32 : List Int := [0, 1, 28, 2, 29, 14, 24, 3, 30, 22, 20, 15, 25, 17, 4, 8, 31, 27, 13, 23, 21, 19, 16, 7, 26, 12, 18, 6, 11, 5, 10, 9]
def z64 : List Int := [0, 1, 56, 2, 57, 49, 28, 3, 61, 58, 42, 50, 38, 29, 17, 4, 62, 47, 59, 36, 45, 43, 51, 22, 53, 39, 33, 30, 24, 18, 12, 5, 63, 55, 48, 27, 60, 41, 37, 16, 46, 35, 44, 21, 52, 32, 23, 11, 54, 26, 40, 15, 34, 20, 31, 10, 25, 14, 19, 9, 13, 8, 7, 6]
def Pow10 (w : World) : Prop := TabIs Tryz.prog w "internal/strconv.uint64pow10" .u64 pow10Tab
theorem pow10_global : Tryz.prog.globalNamed "internal/strconv.uint64pow10" = some 7 := by kernel_rfl
theorem Pow10.below {w w' : World} (h : Pow10 w) (hb : Below w.heap.size w w') : Pow10 w' := by
  unfold Pow10 TabIs at h ⊢
  simp only [World.var?, pow10_global, Option.bind_some] at h ⊢
  have hlt : 7 < w.heap.size := by
    rcases Nat.lt_or_ge 7 w.heap.size with h1 | h1
    · exact h1
    · simp [Array.getElem?_eq_none h1] at h
  rw [hb.block _ hlt]
  exact h
noncomputable def laidWorld (os : Os) : World :=
  let w0 := World.holding Tryz.prog os ⟨#[], #[], []⟩
  let put (h : Array Obj) (g : Nat) (cs : Array Value) : Array Obj := h.modify g fun
    | .cells _ t frozen => .cells cs t frozen
    | o => o
  { w0 with heap := put (put (put w0.heap 7 (pow10Tab.map (Value.int .u64)).toArray) 8 (z32.map (Value.int .u8)).toArray) 9 (z64.map (Value.int .u8)).toArray }
section
variable {H : Type} {enc : TypeId × Value → H} {W : World} {base : Nat}
end
end Go.Proofs.YtiinmhfolfgobaaGreatDoor
