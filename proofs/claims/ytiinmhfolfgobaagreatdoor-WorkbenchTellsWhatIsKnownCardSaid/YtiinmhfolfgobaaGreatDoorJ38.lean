/- Texts joined: NewD, CalmR -/
import Derived.Test.YtiinmhfolfgobaaGreatDoorJ37
import Derived.Test.YtiinmhfolfgobaaGreatDoorJ9
import Derived.Test.YtiinmhfolfgobaaGreatDoorJ3
namespace Go.Proofs.YtiinmhfolfgobaaGreatDoor
open Go.RowKit
/-- d: it is laid; e: it is filled. -/
def NewD (base : Nat) (T : TypeId) (zs vs : Array Value) (d e : Bool) (p : Value) (w' : World) : Prop := d = true → ∃ g, p = .pointer (some ⟨g, 0, none⟩) ∧ base ≤ g ∧ g < w'.heap.size ∧ (e = false → Blk w' g T zs) ∧ (e = true → Blk w' g T vs)
section
variable {base : Nat} {T : TypeId} {zs vs : Array Value} {d e : Bool} {p : Value} {w w' : World}
theorem NewD.start (p : Value) : NewD base T zs vs false e p w := fun h => by cases h
theorem NewD.below (h : NewD base T zs vs d e p w) (hb : Below w.heap.size w w') : NewD base T zs vs d e p w' := fun hd => by
  obtain ⟨g, a, b, c, f, k⟩ := h hd
  exact ⟨g, a, b, Nat.lt_of_lt_of_le c hb.size, fun h => Blk.keep hb (f h), fun h => Blk.keep hb (k h)⟩
theorem NewD.past {X : List Nat} (h : NewD base T zs vs d e p w) (hp : Past X w w') (hX : ∀ x ∈ X, x < base) : NewD base T zs vs d e p w' := fun hd => by
  obtain ⟨g, a, b, c, f, k⟩ := h hd
  have hn : g ∉ X := fun hm => by have := hX g hm; omega
  exact ⟨g, a, b, Nat.lt_of_lt_of_le c hp.1, fun h => hp.blk (f h) hn, fun h => hp.blk (k h) hn⟩
theorem NewD.set (h : NewD base T zs vs d e p w) {q : Addr} (hq : q.block < base) (v : Value) : NewD base T zs vs d e p (w.setCell q v) :=
  h.past (X := [q.block]) (Past.set (by simp) v) (fun x hx => by simp at hx; omega)
theorem NewD.made (hb : base ≤ w.heap.size) (he : e = false) : NewD base T zs vs d e (.pointer (some ⟨w.heap.size, 0, none⟩)) (w.alloc (.cells zs T)) :=
  fun _ => ⟨_, rfl, hb, (by simp), (fun _ => Blk.new _ _ _), (fun h => by rw [he] at h; cases h)⟩
theorem NewD.one (h : NewD base T zs vs d e p w) (hd : d = true) (he : e = false) : ∃ g, p = .pointer (some ⟨g, 0, none⟩) ∧ base ≤ g ∧ g < w.heap.size ∧ Blk w g T zs := by
  obtain ⟨g, a, b, c, f, k⟩ := h hd; exact ⟨g, a, b, c, f he⟩
theorem NewD.stored {g : Nat} (hb : base ≤ g) (h : Blk w g T vs) : NewD base T zs vs d true (.pointer (some ⟨g, 0, none⟩)) w := fun _ => ⟨g, rfl, hb, h.lt, (fun h => by cases h), (fun _ => h)⟩
theorem NewD.last (h : NewD base T zs vs d e p w) (hd : d = true) (he : e = true) : ∃ g, p = .pointer (some ⟨g, 0, none⟩) ∧ base ≤ g ∧ g < w.heap.size ∧ Blk w g T vs := by
  obtain ⟨g, a, b, c, f, k⟩ := h hd; exact ⟨g, a, b, c, k he⟩
end
end Go.Proofs.YtiinmhfolfgobaaGreatDoor
namespace Go.Proofs.YtiinmhfolfgobaaGreatDoor
open Go Go.RowKit
end Go.Proofs.YtiinmhfolfgobaaGreatDoor
