/- Walks: the tape of numbers (sectimecase.Tape). -/
import Derived.Test.YtlnboheahbfgfaaFrame
import Derived.Test.YtlnboheahbfgfaaBase
import Derived.Deep.RegionHeld3
import Derived.Deep.QuietTactic
import Derived.BigQuiet
namespace Go.Proofs.Ytlnboheahbfgfaa
open Go.RowKit

/-- A tape at a block. -/
def TapeAt (w : World) (b : Nat) : Prop := ∃ (g off len cap k : Nat) (A : Option Addr) (zs : List Int), w.cell? ⟨b, 0, none⟩ = some (.slice A len cap) ∧ w.cell? ⟨b, 1, none⟩ = some (.int .i64 k) ∧ w.frozen? ⟨b, 1, none⟩ = false ∧ k ≤ len ∧
  len ≤ 9223372036854775807 ∧ (k < len → A = some ⟨g, off, none⟩ ∧ g < b ∧ ∀ j, j < len → w.cell? ⟨g, off + j, none⟩ = some (.int .i64 (zs.getD j 0)) ∧ IntIn (zs.getD j 0))

theorem grown_put (w : World) (n m : Nat) (a : Addr) (v : Value) : w.grownBy (((w.drewN n).setCell a v).drewN m) (some a.block) := by
  have hb : Below 0 w (((w.drewN n).setCell a v).drewN m) := below_drewN ((below_drewN (Below.refl 0 w) n).setCell (Nat.zero_le _) v) m
  exact ⟨hb.os, hb.tape, hb.output, hb.size, fun k _ hk => Below.heap_setCell (w.drewN n) a v k (fun q => hk (by rw [q]))⟩
theorem grown_drewN (w : World) (n : Nat) (r : Option Nat) : w.grownBy (w.drewN n) r := ⟨rfl, rfl, rfl, Nat.le_refl _, fun _ _ _ => rfl⟩
theorem grown_trans {a b c : World} {r : Option Nat} (h : a.grownBy b r) (k : b.grownBy c r) : a.grownBy c r :=
  ⟨k.os.trans h.os, k.tape.trans h.tape, k.output.trans h.output, Nat.le_trans h.size k.size, fun q hq hr => (k.block q (Nat.lt_of_lt_of_le hq h.size) hr).trans (h.block q hq hr)⟩
theorem grown_below {a b : World} {r : Option Nat} (h : Below a.heap.size a b) : a.grownBy b r := ⟨h.os, h.tape, h.output, h.size, fun k hk _ => h.block k hk⟩
/-- Behind a call on the tape at b: another block reads as it did. -/
theorem cell_grown {w w' : World} {b : Nat} {a : Addr} {v : Value} (hg : w.grownBy w' (some b)) (hn : a.block ≠ b) (h : w.cell? a = some v) : w'.cell? a = some v :=
  (World.cell?_of_block (hg.block a.block (World.block_lt_of_cell? w a h) (by simpa using hn))).trans h
theorem below_grown {B b : Nat} {a w w' : World} (h : Below B a w) (hg : w.grownBy w' (some b)) (hB : B ≤ b) (hw : B ≤ w.heap.size) : Below B a w' :=
  h.grown hg hw (fun k hk => by cases hk; exact hB)
theorem TapeAt.kept {w w' : World} {b : Nat} (h : TapeAt w b) (hb : ∀ k, k ≤ b → w'.heap[k]? = w.heap[k]?) : TapeAt w' b := by
  obtain ⟨g, off, len, cap, k, A, zs, h0, h1, hz, hk, hl, hs⟩ := h
  refine ⟨g, off, len, cap, k, A, zs, (World.cell?_of_block (hb b (Nat.le_refl _))).trans h0, (World.cell?_of_block (hb b (Nat.le_refl _))).trans h1, (World.frozen?_of_block (a := ⟨b, 1, none⟩) (hb b (Nat.le_refl _))).trans hz, hk, hl, fun hlt => ?_⟩
  obtain ⟨e, hg, hs⟩ := hs hlt
  exact ⟨e, hg, fun j hj => ⟨(World.cell?_of_block (hb g (by omega))).trans (hs j hj).1, (hs j hj).2⟩⟩
theorem TapeAt.lt {w : World} {b : Nat} (h : TapeAt w b) : b < w.heap.size := by
  obtain ⟨g, off, len, cap, k, A, zs, h0, _⟩ := h
  exact World.block_lt_of_cell? w _ h0

theorem TapeAt.below {w w' : World} {b : Nat} (h : TapeAt w b) (hb : Below w.heap.size w w') : TapeAt w' b :=
  h.kept fun k hk => hb.block k (Nat.lt_of_le_of_lt hk h.lt)
theorem TapeAt.set {w : World} {b : Nat} (h : TapeAt w b) {a : Addr} (ha : b < a.block) (v : Value) : TapeAt (w.setCell a v) b :=
  h.kept fun k hk => Below.heap_setCell w a v k (by omega)
theorem TapeAt.alloc {w : World} {b : Nat} (h : TapeAt w b) (o : Obj) : TapeAt (w.alloc o) b := h.below ((Below.refl _ _).alloc (Nat.le_refl _) _)
theorem TapeAt.drew {w : World} {b : Nat} (h : TapeAt w b) : TapeAt w.drew b := h.below (Below.refl _ _).drew
theorem grown_own {w w2 : World} {o : Obj} {b : Nat} (hg : (w.alloc o).grownBy w2 (some b)) (x y : Value) (i j : Nat) : w.grownBy ((w2.setCell ⟨w.heap.size, i, none⟩ x).setCell ⟨w.heap.size, j, none⟩ y) (some b) := by
  have hs := hg.size
  simp at hs
  have h0 : Below 0 w w2 := ⟨hg.os, hg.tape, hg.output, by omega, fun k hk => absurd hk (by omega)⟩
  have h1 : Below 0 w ((w2.setCell ⟨w.heap.size, i, none⟩ x).setCell ⟨w.heap.size, j, none⟩ y) := (h0.setCell (Nat.zero_le _) x).setCell (Nat.zero_le _) y
  refine ⟨h1.os, h1.tape, h1.output, h1.size, fun k hk hn => ?_⟩
  rw [Below.heap_setCell _ _ _ _ (by simp; omega), Below.heap_setCell _ _ _ _ (by simp; omega), hg.block k (by simp; omega) hn]
  exact Below.heap_alloc w o k hk

end Go.Proofs.Ytlnboheahbfgfaa
