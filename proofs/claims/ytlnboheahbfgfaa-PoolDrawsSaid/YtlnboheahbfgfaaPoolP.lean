/- Plain law of a drawn sample: what swapping i with a place at or behind i leaves. -/
set_option linter.unusedSimpArgs false
namespace Go.Proofs.Ytlnboheahbfgfaa
/-- Two places exchanged. -/
def swp (l : List Int) (i j : Nat) : List Int := (l.set i (l.getD j 0)).set j (l.getD i 0)
/-- The list behind so many draws. -/
def drS (f : Nat → Nat) (n : Nat) : Nat → List Int
  | 0 => (List.range n).map Int.ofNat
  | i + 1 => swp (drS f n i) i (i + f i)
theorem swp_length (l : List Int) (i j : Nat) : (swp l i j).length = l.length := by simp [swp]
theorem drS_length (f : Nat → Nat) (n : Nat) : ∀ i, (drS f n i).length = n
  | 0 => by simp [drS]
  | i + 1 => by rw [drS, swp_length, drS_length f n i]
/-- The draws keep within. -/
def DrF (f : Nat → Nat) (n k : Nat) : Prop := ∀ i, i < k → i + f i < n
end Go.Proofs.Ytlnboheahbfgfaa
