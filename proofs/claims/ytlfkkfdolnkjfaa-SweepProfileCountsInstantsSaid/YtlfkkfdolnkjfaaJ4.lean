/- Texts joined: Div, Exact, Round, Kit -/
import Derived.BigQuiet
import Derived.Deep.CutBlock
import Derived.Deep.DeepCutAuto
import Derived.Deep.QuietTactic
import Derived.Laws.Bits64b
import Derived.Lib.BitFns
import Derived.Lib.ItoaNum
import Derived.Lib.Mul64
import Derived.Laws.OwnMore
import Derived.Laws.Rows
import Derived.Test.YtlfkkfdolnkjfaaBase
import Derived.Test.YtlfkkfdolnkjfaaLen
import Derived.Test.YtlfkkfdolnkjfaaPlainDiv
namespace Go.Proofs.Ytlfkkfdolnkjfaa
open Go.RowKit

end Go.Proofs.Ytlfkkfdolnkjfaa
namespace Go.Proofs.Ytlfkkfdolnkjfaa
open Go.RowKit

end Go.Proofs.Ytlfkkfdolnkjfaa
namespace Go.Proofs.Ytlfkkfdolnkjfaa
open Go.RowKit

/-- What a call returns; nothing that was there is written. -/
def RB (w : World) (v : Value) (e : Ending) (w' : World) : Prop := e = .returned v ∧ Below w.heap.size w w'
end Go.Proofs.Ytlfkkfdolnkjfaa
namespace Go.Proofs.Ytlfkkfdolnkjfaa
open Go.RowKit

/-- Block g is just these cells. -/
def Blk (w : World) (g : Nat) (t : TypeId) (cs : Array Value) : Prop := w.heap[g]? = some (.cells cs t (0, 0))
section
variable {w w' : World} {g : Nat} {t : TypeId} {cs : Array Value}
theorem Blk.lt (h : Blk w g t cs) : g < w.heap.size := by
  rcases Nat.lt_or_ge g w.heap.size with hlt | hge
  · exact hlt
  · unfold Blk at h; rw [Array.getElem?_eq_none hge] at h; cases h
theorem Blk.cell (h : Blk w g t cs) (i : Nat) : w.cell? ⟨g, i, none⟩ = cs[i]? := cell_of_row w g i cs t (0, 0) h
theorem Blk.frozen (h : Blk w g t cs) (i : Nat) : w.frozen? ⟨g, i, none⟩ = false := by
  unfold Blk at h
  simp [World.frozen?, h]
theorem Blk.new (w : World) (t : TypeId) (cs : Array Value) : Blk (w.alloc (.cells cs t)) w.heap.size t cs := heap_alloc_new w _
theorem Blk.newE {w : World} {g : Nat} {t : TypeId} {cs : Array Value} (h : g = w.heap.size) : Blk (w.alloc (.cells cs t)) g t cs := h ▸ heap_alloc_new w _
theorem Blk.new1 (w : World) (o : Obj) (t : TypeId) (cs : Array Value) : Blk ((w.alloc o).alloc (.cells cs t)) (w.heap.size + 1) t cs := by
  have := heap_alloc_new (w.alloc o) (.cells cs t); simpa [Blk] using this
theorem Blk.drew (h : Blk w g t cs) : Blk w.drew g t cs := h
theorem Blk.drewN (h : Blk w g t cs) (n : Nat) : Blk (w.drewN n) g t cs := h
theorem Blk.alloc (h : Blk w g t cs) (o : Obj) : Blk (w.alloc o) g t cs := (Below.heap_alloc w o g h.lt).trans h
theorem Blk.set_ (h : Blk w g t cs) (i : Nat) (u : Value) : Blk (w.setCell ⟨g, i, none⟩ u) g t (cs.setIfInBounds i u) := by
  unfold Blk at h ⊢
  simp [World.setCell, Array.getElem?_modify, h]
theorem Blk.put {i : Nat} {u : Value} {cs' : Array Value} (h : Blk w g t cs) (he : cs.setIfInBounds i u = cs') : Blk (w.setCell ⟨g, i, none⟩ u) g t cs' := he ▸ h.set_ i u
theorem Blk.far (h : Blk w g t cs) {p : Addr} (hp : g ≠ p.block) (u : Value) : Blk (w.setCell p u) g t cs := (Below.heap_setCell w p u g hp).trans h
/-- Behind a call that lets all be that was there. -/
theorem Blk.keep (hb : Below w.heap.size w w') (h : Blk w g t cs) : Blk w' g t cs := (hb.block g h.lt).trans h
/-- What the walk uses. -/
theorem Blk.facts (h : Blk w g t cs) : (∀ i, w.cell? ⟨g, i, none⟩ = cs[i]?) ∧ (∀ i, w.frozen? ⟨g, i, none⟩ = false) ∧ g < w.heap.size ∧ g ≤ w.heap.size ∧ ∀ k, g < w.heap.size + k :=
  ⟨h.cell, h.frozen, h.lt, Nat.le_of_lt h.lt, fun k => Nat.lt_of_lt_of_le h.lt (Nat.le_add_right _ _)⟩
end
end Go.Proofs.Ytlfkkfdolnkjfaa
