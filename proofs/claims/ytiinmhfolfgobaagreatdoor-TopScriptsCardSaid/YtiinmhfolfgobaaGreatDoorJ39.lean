/- Texts joined: Sim5, Sim6 -/
import Derived.Laws.MakeOwn
import Derived.Test.YtiinmhfolfgobaaGreatDoorJ37
import Derived.Test.YtiinmhfolfgobaaGreatDoorJ38
import Derived.Test.YtiinmhfolfgobaaGreatDoorJ32
namespace Go.Proofs.YtiinmhfolfgobaaGreatDoor
open Go.RowKit Go.Shelf Go.Sort
set_option linter.unusedSimpArgs false
set_option linter.unusedVariables false

end Go.Proofs.YtiinmhfolfgobaaGreatDoor
namespace Go.Proofs.YtiinmhfolfgobaaGreatDoor
open Go.RowKit Go.Shelf Go.Sort
set_option linter.unusedSimpArgs false
set_option linter.unusedVariables false

theorem src_made (n : Nat) : SrcAt (madeCells #[.bool false, .int .i64 0, .int .i64 0, .int .i64 0, .int .i64 0, .int .i64 0, .int .i64 0] (n * 7)) (List.replicate n (false, .zero)) := by
  refine ⟨by simp [madeCells], fun j hj i hi => ?_⟩
  rw [List.length_replicate] at hj
  have hlt : j * 7 + i < n * 7 := by omega
  have e : (List.replicate n ((false, K6.zero) : Kw)).getD j (false, .zero) = (false, .zero) := by
    rw [List.getD_eq_getElem?_getD, List.getElem?_replicate, if_pos hj]; rfl
  rw [e]
  have hm : (j * 7 + i) % 7 = i := by omega
  obtain rfl | rfl | rfl | rfl | rfl | rfl | rfl : i = 0 ∨ i = 1 ∨ i = 2 ∨ i = 3 ∨ i = 4 ∨ i = 5 ∨ i = 6 := by omega
  all_goals (rw [Array.getElem?_eq_getElem (by simp [madeCells]; omega)]; simp only [madeCells, Array.getElem_map, Array.getElem_range]; simp only [List.size_toArray, List.length_cons, List.length_nil, Nat.reduceAdd, hm]; rfl)
theorem src_set {cur : Array Value} {l : List Kw} (h : SrcAt cur l) (q : Nat) (hq : q < l.length) (k : Kw) : SrcAt (setArr cur (q * 7) (kwC k)) (l.set q k) := by
  have hk : (kwC k).length = 7 := rfl
  refine ⟨by rw [setArr_size, List.length_set]; exact h.1, fun j hj i hi => ?_⟩
  rw [List.length_set] at hj
  rw [setArr_get _ _ _ _ (by rw [hk, h.1]; omega), hk, getD_set']
  by_cases e : j = q
  · subst e
    rw [if_pos (by omega), if_pos ⟨rfl, hq⟩]; congr 1; omega
  · rw [if_neg (by omega), if_neg (by simp [e])]; exact h.2 j hj i hi
theorem Past.belowX {X : List Nat} {w a c : World} (h : Below w.heap.size w a) (k : Past X a c) (hX : ∀ x ∈ X, w.heap.size ≤ x) : Below w.heap.size w c :=
  ⟨k.2.1.trans h.os, k.2.2.1.trans h.tape, k.2.2.2.1.trans h.output, Nat.le_trans h.size k.1, fun q hq => (k.2.2.2.2 q (Nat.lt_of_lt_of_le hq h.size) (fun hm => by have := hX q hm; omega)).trans (h.block q hq)⟩
end Go.Proofs.YtiinmhfolfgobaaGreatDoor
