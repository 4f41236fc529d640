/- Texts joined: KitT, Ck -/
import Derived.Test.YtlnboheahbfgfaaGreatJ4
import Derived.Test.YtlnboheahbfgfaaGreatTape
namespace Go.Proofs.YtlnboheahbfgfaaGreat
open Go.RowKit

theorem TapeAt.drewN {w : World} {b : Nat} (h : TapeAt w b) (n : Nat) : TapeAt (w.drewN n) b := h.below (below_drewN (Below.refl _ _) n)
theorem below_grown2 {b : Nat} {a w w' : World} (h : Below a.heap.size a w) (hg : w.grownBy w' (some b)) (hB : a.heap.size ≤ b) : Below a.heap.size a w' :=
  below_grown h hg hB h.size
theorem Blk.keepG {w w' : World} {g b : Nat} {t : TypeId} {cs : Array Value} (hg : w.grownBy w' (some b)) (h : Blk w g t cs) (hn : g ≠ b) : Blk w' g t cs :=
  (hg.block g h.lt (by simpa using hn)).trans h
theorem IntsAt.below {w w' : World} {A : Option Addr} {len : Nat} {zs : List Int} (h : IntsAt w A len zs) (hb : Below w.heap.size w w') : IntsAt w' A len zs := by
  obtain ⟨h1, h2, h3, h4⟩ := h
  refine ⟨h1, h2, h3, fun hl => ?_⟩
  obtain ⟨b, off, rfl, hlt, hc⟩ := h4 hl
  exact ⟨b, off, rfl, Nat.lt_of_lt_of_le hlt hb.size, fun j hj => cell_below hb (hc j hj)⟩
theorem IntsAt.alloc {w : World} {A : Option Addr} {len : Nat} {zs : List Int} (h : IntsAt w A len zs) (o : Obj) : IntsAt (w.alloc o) A len zs := h.below ((Below.refl _ _).alloc (Nat.le_refl _) _)
end Go.Proofs.YtlnboheahbfgfaaGreat
namespace Go.Proofs.YtlnboheahbfgfaaGreat
open Go.RowKit
def Kp (w W : World) : Prop := Below w.heap.size w W
theorem Kp.below {w W W' : World} (h : Kp w W) (hb : Below W.heap.size W W') : Kp w W' := kept_call hb h
theorem Kp.b {w W : World} (h : Kp w W) : Below w.heap.size w W := h
theorem Blk.below {w w' : World} {g : Nat} {t : TypeId} {cs : Array Value} (h : Blk w g t cs) (hb : Below w.heap.size w w') : Blk w' g t cs := Blk.keep hb h
end Go.Proofs.YtlnboheahbfgfaaGreat
