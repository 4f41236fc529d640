/- A drawn region whose operations write one slot after the other: what its slots hold behind it. -/
import Derived.Test.YtlfkkfdolnkjfaaJ13
namespace Go.Proofs.Ytlfkkfdolnkjfaa
open Go Go.RowKit
theorem calmPut_row : ∀ (l : List Oper) (s : Nat) (L : List Value) (d : List _) (_ : l.map Oper.dst = (List.range' s l.length).map some) (_ : s + l.length ≤ L.length) (u : Nat → Value) (k : Nat),
    calmPut l u k ⟨L.toArray, d⟩ = ⟨(L.take s ++ ((List.range' k l.length).map u ++ L.drop (s + l.length))).toArray, d⟩
  | [], s, L, d, _, hs, u, k => by simp [calmPut]
  | o :: l, s, L, d, hd, hs, u, k => by
    simp only [List.map_cons, List.length_cons, List.range'_succ] at hd
    injection hd with h1 h2
    have hs' : s + (l.length + 1) ≤ L.length := by simpa using hs
    rw [calmPut, h1]
    have e : (⟨L.toArray, d⟩ : Act).put (some s) (u k) = ⟨(L.set s (u k)).toArray, d⟩ := by simp [Act.put]
    rw [e, calmPut_row l (s + 1) (L.set s (u k)) d h2 (by rw [List.length_set]; omega) u (k + 1)]
    have e1 : (L.set s (u k)).take (s + 1) = L.take s ++ [u k] := by
      rw [List.take_add_one, List.getElem?_set_self (by omega), List.take_set_of_le (Nat.le_refl _)]; rfl
    have e2 : (L.set s (u k)).drop (s + 1 + l.length) = L.drop (s + (l.length + 1)) := by
      rw [List.drop_set_of_lt (by omega)]; congr 1; omega
    rw [e1, e2, List.length_cons, List.range'_succ, List.map_cons]
    simp
end Go.Proofs.Ytlfkkfdolnkjfaa
