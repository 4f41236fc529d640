/- Closing tactics and short names, written once. -/
import Derived.KernelRfl
set_option linter.unusedVariables false
set_option linter.unusedSimpArgs false
namespace Go.Proofs.YtiinmhfolfgobaaGreatDoor
theorem Yo {p : Prop} (h : p := by omega) : p := h
theorem Y6 {p : Prop} (h : p := by first | omega | (simp <;> omega)) : p := h
theorem Y7 {p : Prop} (h : p := by simp <;> omega) : p := h
theorem Yr {p : Prop} (h : p := by kernel_rfl) : p := h
theorem Yd {p : Prop} (h : p := by decide) : p := h
theorem Ys {p : Prop} (h : p := by simp) : p := h
theorem Y2 {p : Prop} [Decidable p] (h : p := by omega) : decide p = true := decide_eq_true h
theorem Y3 {p : Prop} [Decidable p] (h : ¬ p := by omega) : decide p = false := decide_eq_false h
theorem Y5 {α : Type} [BEq α] [LawfulBEq α] {x y : α} (h : ¬ x = y := by omega) : (x == y) = false := beq_eq_false_iff_ne.2 h
theorem Ye {p q : Prop} (n : ¬ p := by decide) : p → q := fun h => absurd h n
theorem Ya {a b : Prop} (x : a) (y : b) : a ∧ b := ⟨x, y⟩
theorem Y8 {α : Type} {l : List α} {i : Nat} {d : α} : l.getD i d = (l[i]?).getD d := List.getD_eq_getElem?_getD ..
theorem Y9 {α : Type} {l : List α} {i : Nat} (h : i < l.length) : l[i]? = some l[i] := List.getElem?_eq_getElem h
theorem lla {α : Type} {a b : List α} : (a ++ b).length = a.length + b.length := List.length_append
theorem lg0 {α : Type} {a : α} {l : List α} : (a :: l)[0]? = some a := List.getElem?_cons_zero
theorem lg1 {α : Type} {a : α} {i : Nat} {l : List α} : (a :: l)[i + 1]? = l[i]? := List.getElem?_cons_succ
theorem ld0 {α : Type} {a d : α} {l : List α} : (a :: l).getD 0 d = a := List.getD_cons_zero
theorem ld1 {α : Type} {a d : α} {i : Nat} {l : List α} : (a :: l).getD (i + 1) d = l.getD i d := List.getD_cons_succ
theorem ls0 {α : Type} {a b : α} {l : List α} : (a :: l).set 0 b = b :: l := List.set_cons_zero
theorem ls1 {α : Type} {a b : α} {i : Nat} {l : List α} : (a :: l).set (i + 1) b = a :: l.set i b := List.set_cons_succ
theorem lst {α : Type} {l : List α} {i : Nat} {a : α} : l.toArray.setIfInBounds i a = (l.set i a).toArray := List.setIfInBounds_toArray ..
theorem osj {α : Type} {a b : α} : (some a = some b) = (a = b) := Option.some.injEq a b
theorem lm1 {α β : Type} {f : α → β} {a : α} {l : List α} : (a :: l).map f = f a :: l.map f := List.map_cons
theorem lm0 {α β : Type} {f : α → β} : ([] : List α).map f = [] := List.map_nil
end Go.Proofs.YtiinmhfolfgobaaGreatDoor
