/- Walks: the tape of numbers (sectimecase.Tape). -/
import Derived.BigQuiet
import Derived.Deep.QuietTactic
import Derived.Deep.RegionHeld3
import Derived.Test.YtiinmhfolfgobaaGreatDoorJ4
import Derived.Test.YtiinmhfolfgobaaGreatDoorFrame
namespace Go.Proofs.YtiinmhfolfgobaaGreatDoor
open Go.RowKit

/-- A tape at a block. -/
def TapeAt (w : World) (b : Nat) : Prop := ∃ (g off len cap k : Nat) (A : Option Addr) (zs : List Int), w.cell? ⟨b, 0, none⟩ = some (.slice A len cap) ∧ w.cell? ⟨b, 1, none⟩ = some (.int .i64 k) ∧ w.frozen? ⟨b, 1, none⟩ = false ∧ k ≤ len ∧
  len ≤ 9223372036854775807 ∧ (k < len → A = some ⟨g, off, none⟩ ∧ g < b ∧ ∀ j, j < len → w.cell? ⟨g, off + j, none⟩ = some (.int .i64 (zs.getD j 0)) ∧ IntIn (zs.getD j 0))

theorem grown_drewN (w : World) (n : Nat) (r : Option Nat) : w.grownBy (w.drewN n) r := ⟨rfl, rfl, rfl, Nat.le_refl _, fun _ _ _ => rfl⟩
theorem grown_trans {a b c : World} {r : Option Nat} (h : a.grownBy b r) (k : b.grownBy c r) : a.grownBy c r :=
  ⟨k.os.trans h.os, k.tape.trans h.tape, k.output.trans h.output, Nat.le_trans h.size k.size, fun q hq hr => (k.block q (Nat.lt_of_lt_of_le hq h.size) hr).trans (h.block q hq hr)⟩
theorem grown_below {a b : World} {r : Option Nat} (h : Below a.heap.size a b) : a.grownBy b r := ⟨h.os, h.tape, h.output, h.size, fun k hk _ => h.block k hk⟩
theorem TapeAt.kept {w w' : World} {b : Nat} (h : TapeAt w b) (hb : ∀ k, k ≤ b → w'.heap[k]? = w.heap[k]?) : TapeAt w' b := by
  obtain ⟨g, off, len, cap, k, A, zs, h0, h1, hz, hk, hl, hs⟩ := h
  refine ⟨g, off, len, cap, k, A, zs, (World.cell?_of_block (hb b (Nat.le_refl _))).trans h0, (World.cell?_of_block (hb b (Nat.le_refl _))).trans h1, (World.frozen?_of_block (a := ⟨b, 1, none⟩) (hb b (Nat.le_refl _))).trans hz, hk, hl, fun hlt => ?_⟩
  obtain ⟨e, hg, hs⟩ := hs hlt
  exact ⟨e, hg, fun j hj => ⟨(World.cell?_of_block (hb g (by omega))).trans (hs j hj).1, (hs j hj).2⟩⟩
theorem TapeAt.lt {w : World} {b : Nat} (h : TapeAt w b) : b < w.heap.size := by
  obtain ⟨g, off, len, cap, k, A, zs, h0, _⟩ := h
  exact World.block_lt_of_cell? w _ h0

theorem TapeAt.below {w w' : World} {b : Nat} (h : TapeAt w b) (hb : Below w.heap.size w w') : TapeAt w' b :=
  h.kept fun k hk => hb.block k (Nat.lt_of_le_of_lt hk h.lt)
theorem TapeAt.set {w : World} {b : Nat} (h : TapeAt w b) {a : Addr} (ha : b < a.block) (v : Value) : TapeAt (w.setCell a v) b :=
  h.kept fun k hk => Below.heap_setCell w a v k (by omega)
theorem TapeAt.alloc {w : World} {b : Nat} (h : TapeAt w b) (o : Obj) : TapeAt (w.alloc o) b := h.below ((Below.refl _ _).alloc (Nat.le_refl _) _)
theorem TapeAt.drew {w : World} {b : Nat} (h : TapeAt w b) : TapeAt w.drew b := h.below (Below.refl _ _).drew
end Go.Proofs.YtiinmhfolfgobaaGreatDoor
