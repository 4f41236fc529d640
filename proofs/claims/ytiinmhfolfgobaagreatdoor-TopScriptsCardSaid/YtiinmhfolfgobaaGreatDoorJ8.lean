/- Texts joined: KitT, Ck, CalmP -/
import Derived.Test.YtiinmhfolfgobaaGreatDoorJ6
import Derived.Test.YtiinmhfolfgobaaGreatDoorTape
import Derived.Test.YtiinmhfolfgobaaGreatDoorJ3
namespace Go.Proofs.YtiinmhfolfgobaaGreatDoor
open Go.RowKit

theorem TapeAt.drewN {w : World} {b : Nat} (h : TapeAt w b) (n : Nat) : TapeAt (w.drewN n) b := h.below (below_drewN (Below.refl _ _) n)
theorem Blk.keepG {w w' : World} {g b : Nat} {t : TypeId} {cs : Array Value} (hg : w.grownBy w' (some b)) (h : Blk w g t cs) (hn : g ≠ b) : Blk w' g t cs :=
  (hg.block g h.lt (by simpa using hn)).trans h
theorem IntsAt.below {w w' : World} {A : Option Addr} {len : Nat} {zs : List Int} (h : IntsAt w A len zs) (hb : Below w.heap.size w w') : IntsAt w' A len zs := by
  obtain ⟨h1, h2, h3, h4⟩ := h
  refine ⟨h1, h2, h3, fun hl => ?_⟩
  obtain ⟨b, off, rfl, hlt, hc⟩ := h4 hl
  exact ⟨b, off, rfl, Nat.lt_of_lt_of_le hlt hb.size, fun j hj => cell_below hb (hc j hj)⟩
theorem IntsAt.alloc {w : World} {A : Option Addr} {len : Nat} {zs : List Int} (h : IntsAt w A len zs) (o : Obj) : IntsAt (w.alloc o) A len zs := h.below ((Below.refl _ _).alloc (Nat.le_refl _) _)
end Go.Proofs.YtiinmhfolfgobaaGreatDoor
namespace Go.Proofs.YtiinmhfolfgobaaGreatDoor
open Go.RowKit
def Kp (w W : World) : Prop := Below w.heap.size w W
theorem Kp.below {w W W' : World} (h : Kp w W) (hb : Below W.heap.size W W') : Kp w W' := kept_call hb h
theorem Kp.b {w W : World} (h : Kp w W) : Below w.heap.size w W := h
theorem Blk.below {w w' : World} {g : Nat} {t : TypeId} {cs : Array Value} (h : Blk w g t cs) (hb : Below w.heap.size w w') : Blk w' g t cs := Blk.keep hb h
end Go.Proofs.YtiinmhfolfgobaaGreatDoor
namespace Go.Proofs.YtiinmhfolfgobaaGreatDoor
open Go.RowKit

/-- w' has grown out of w; nothing that was there has turned but the blocks named. -/
def Past (X : List Nat) (w w' : World) : Prop := w.heap.size ≤ w'.heap.size ∧ w'.os = w.os ∧ w'.tape = w.tape ∧ w'.output = w.output ∧ ∀ k, k < w.heap.size → k ∉ X → w'.heap[k]? = w.heap[k]?
theorem Past.refl (X : List Nat) (w : World) : Past X w w := ⟨Nat.le_refl _, rfl, rfl, rfl, fun _ _ _ => rfl⟩
theorem Past.trans {X : List Nat} {a b c : World} (h : Past X a b) (k : Past X b c) : Past X a c :=
  ⟨Nat.le_trans h.1 k.1, k.2.1.trans h.2.1, k.2.2.1.trans h.2.2.1, k.2.2.2.1.trans h.2.2.2.1, fun q hq hn => (k.2.2.2.2 q (Nat.lt_of_lt_of_le hq h.1) hn).trans (h.2.2.2.2 q hq hn)⟩
theorem Past.grown {X : List Nat} {b : Nat} {w w' : World} (h : w.grownBy w' (some b)) (hb : b ∈ X) : Past X w w' := ⟨h.size, h.os, h.tape, h.output, fun k hk hn => h.block k hk (fun e => by cases e; exact hn hb)⟩
theorem Past.below {X : List Nat} {w w' : World} (h : Below w.heap.size w w') : Past X w w' := ⟨h.size, h.os, h.tape, h.output, fun k hk _ => h.block k hk⟩
theorem Past.alloc (X : List Nat) (w : World) (o : Obj) : Past X w (w.alloc o) := Past.below ((Below.refl _ _).alloc (Nat.le_refl _) _)
theorem Past.drew {X : List Nat} {w w' : World} (h : Past X w w') : Past X w w'.drew := h
theorem Past.set {X : List Nat} {w : World} {a : Addr} (h : a.block ∈ X) (v : Value) : Past X w (w.setCell a v) := ⟨by simp [World.setCell], rfl, rfl, rfl, fun k hk hn => Below.heap_setCell _ _ _ _ (fun e => hn (e ▸ h))⟩
theorem Past.blk {X : List Nat} {w w' : World} {g : Nat} {t : TypeId} {cs : Array Value} (h : Past X w w') (hb : Blk w g t cs) (hn : g ∉ X) : Blk w' g t cs := (h.2.2.2.2 g hb.lt hn).trans hb
theorem Past.grownBy {b g0 : Nat} {w w' : World} (h : Past [b, g0] w w') (hg : w.heap.size ≤ g0) : w.grownBy w' (some b) := ⟨h.2.1, h.2.2.1, h.2.2.2.1, h.1, fun k hk hn => h.2.2.2.2 k hk (by simp only [List.mem_cons, List.not_mem_nil, or_false, not_or]; exact ⟨fun e => hn (by rw [e]), by omega⟩)⟩
/-- A number in a range; a slice on a new block of its own; a place in it. -/
def InR (lo hi : Int) : List Value → Value → World → Prop := fun _ v _ => ∃ x : Int, v = .int .i64 x ∧ lo ≤ x ∧ x < hi
def SliceN (X : List Nat) (t : TypeId) (n : Nat) (cs : Array Value) : List Value → Value → World → Prop := fun _ v w => ∃ g, v = .slice (some ⟨g, 0, none⟩) n n ∧ g ∉ X ∧ Blk w g t cs
def PtrN (X : List Nat) (t : TypeId) (n : Nat) (cs : Array Value) : List Value → Value → World → Prop := fun _ v w => ∃ g k, v = .pointer (some ⟨g, k, none⟩) ∧ k < n ∧ g ∉ X ∧ Blk w g t cs
theorem keep_inR {R : World → World → Prop} {lo hi : Int} : ∀ d v w w', R w w' → InR lo hi d v w → InR lo hi d v w' := fun _ _ _ _ _ h => h
theorem keep_sliceN {X : List Nat} {t : TypeId} {n : Nat} {cs : Array Value} : ∀ d v w w', Past X w w' → SliceN X t n cs d v w → SliceN X t n cs d v w' := fun _ _ _ _ h ⟨g, e, hn, hb⟩ => ⟨g, e, hn, h.blk hb hn⟩
theorem keep_ptrN {X : List Nat} {t : TypeId} {n : Nat} {cs : Array Value} : ∀ d v w w', Past X w w' → PtrN X t n cs d v w → PtrN X t n cs d v w' := fun _ _ _ _ h ⟨g, k, e, hk, hn, hb⟩ => ⟨g, k, e, hk, hn, h.blk hb hn⟩
theorem keep_is' {R : World → World → Prop} {c : Value} : ∀ d v w w', R w w' → Is c d v w → Is c d v w' := fun _ _ _ _ _ h => h
/-- What hangs on the values alone. -/
def Pure (p : List Value → Value → Prop) : List Value → Value → World → Prop := fun d v _ => p d v
theorem keep_pure {R : World → World → Prop} {p : List Value → Value → Prop} : ∀ d v w w', R w w' → Pure p d v w → Pure p d v w' := fun _ _ _ _ _ h => h
theorem keep_triv {R : World → World → Prop} : ∀ (d : List Value) (v : Value) w w', R w w' → (fun _ _ _ => True : List Value → Value → World → Prop) d v w → (fun _ _ _ => True : List Value → Value → World → Prop) d v w' := fun _ _ _ _ _ h => h

theorem Past.far {X : List Nat} {W w : World} {a : Addr} (h : Past X W w) (ha : W.heap.size ≤ a.block) (v : Value) : Past X W (w.setCell a v) := ⟨by simp [World.setCell]; exact h.1, h.2.1, h.2.2.1, h.2.2.2.1, fun k hk hn => (Below.heap_setCell _ _ _ _ (by omega)).trans (h.2.2.2.2 k hk hn)⟩
/-- A variable that a region makes, and fills at its end: us is its address and its value. -/
def NewC (base : Nat) (T : TypeId) (zs : Array Value) (n : Nat) (us : List Value) (w' : World) : Prop :=
  n = 0 ∨ ∃ g, us[0]? = some (.pointer (some ⟨g, 0, none⟩)) ∧ base ≤ g ∧ g < w'.heap.size ∧ (n = 1 → Blk w' g T zs) ∧ (n = 2 → ∃ cs, us[1]? = some (.agg cs) ∧ Blk w' g T cs)
theorem NewC.keep {base b : Nat} {T : TypeId} {zs : Array Value} {n : Nat} {us : List Value} {w w' : World} (h : NewC base T zs n us w) (hp : Past [b] w w') (hb : b < base) : NewC base T zs n us w' := by
  rcases h with h | ⟨g, h1, h2, h3, h4, h5⟩
  · exact .inl h
  · have hn : g ∉ [b] := by simp; omega
    exact .inr ⟨g, h1, h2, Nat.lt_of_lt_of_le h3 hp.1, fun e => hp.blk (h4 e) hn, fun e => (h5 e).imp fun cs q => ⟨q.1, hp.blk q.2 hn⟩⟩
theorem NewC.val {base : Nat} {T : TypeId} {zs : Array Value} {n : Nat} {p x y : Value} {w : World} (h : NewC base T zs n [p, x] w) (hn : n ≤ 1) : NewC base T zs n [p, y] w := by
  rcases h with h | ⟨g, h1, h2, h3, h4, h5⟩
  · exact .inl h
  · exact .inr ⟨g, by simpa using h1, h2, h3, h4, fun e => by omega⟩
theorem NewC.made {base : Nat} {T : TypeId} {zs : Array Value} {x : Value} {w : World} (hb : base ≤ w.heap.size) : NewC base T zs 1 [.pointer (some ⟨w.heap.size, 0, none⟩), x] (w.alloc (.cells zs T)) :=
  .inr ⟨w.heap.size, rfl, hb, by simp, fun _ => Blk.new _ _ _, fun e => by omega⟩
theorem NewC.last {base : Nat} {T : TypeId} {zs : Array Value} {p x : Value} {w : World} (h : NewC base T zs 2 [p, x] w) : ∃ g cs, p = .pointer (some ⟨g, 0, none⟩) ∧ base ≤ g ∧ x = .agg cs ∧ Blk w g T cs := by
  rcases h with h | ⟨g, h1, h2, h3, h4, h5⟩
  · omega
  · obtain ⟨cs, e, hB⟩ := h5 rfl
    exact ⟨g, cs, by simpa using h1, h2, by simpa using e, hB⟩
theorem NewC.one {base : Nat} {T : TypeId} {zs : Array Value} {p x : Value} {w : World} (h : NewC base T zs 1 [p, x] w) : ∃ g, p = .pointer (some ⟨g, 0, none⟩) ∧ base ≤ g ∧ g < w.heap.size ∧ Blk w g T zs := by
  rcases h with h | ⟨g, h1, h2, h3, h4, h5⟩
  · omega
  · exact ⟨g, by simpa using h1, h2, h3, h4 rfl⟩
theorem NewC.stored {base : Nat} {T : TypeId} {zs cs : Array Value} {g : Nat} {w : World} (hb : base ≤ g) (h : Blk w g T cs) : NewC base T zs 2 [.pointer (some ⟨g, 0, none⟩), .agg cs] w :=
  .inr ⟨g, rfl, hb, h.lt, fun e => by omega, fun _ => ⟨cs, rfl, h⟩⟩

/-- w' has grown out of w; of what was there only the blocks X, and blocks of the type T0, may have turned. -/
def PastN (T0 : TypeId) (X : List Nat) (w w' : World) : Prop := ∀ k, k < w.heap.size → k ∉ X → w'.heap[k]? = w.heap[k]? ∨ ∃ cs, Blk w k T0 cs
theorem PastN.past {T0 : TypeId} {X : List Nat} {w w' : World} (h : Past X w w') : PastN T0 X w w' := fun k hk hn => .inl (h.2.2.2.2 k hk hn)
theorem PastN.refl (T0 : TypeId) (X : List Nat) (w : World) : PastN T0 X w w := fun _ _ _ => .inl rfl
theorem PastN.sets {T0 : TypeId} {X : List Nat} {w w' : World} {g : Nat} {cs : Array Value} (hb : Blk w g T0 cs) (h : ∀ k, k ≠ g → w'.heap[k]? = w.heap[k]?) : PastN T0 X w w' := fun k _ _ => by
  by_cases e : k = g
  · exact .inr ⟨cs, e ▸ hb⟩
  · exact .inl (h k e)
theorem PastN.blk {T0 : TypeId} {X : List Nat} {w w' : World} {g : Nat} {t : TypeId} {cs : Array Value} (h : PastN T0 X w w') (hb : Blk w g t cs) (hn : g ∉ X) (ht : t ≠ T0) : Blk w' g t cs := by
  rcases h g hb.lt hn with e | ⟨cs', e⟩
  · exact e.trans hb
  · exfalso
    unfold Blk at e hb
    rw [e] at hb
    injection hb with hb
    injection hb with _ hb
    exact ht hb.symm
theorem keep_sliceT {T0 : TypeId} {X : List Nat} {t : TypeId} {n : Nat} {cs : Array Value} (ht : t ≠ T0) : ∀ d v w w', PastN T0 X w w' → SliceN X t n cs d v w → SliceN X t n cs d v w' := fun _ _ _ _ h ⟨g, e, hn, hb⟩ => ⟨g, e, hn, h.blk hb hn ht⟩
theorem keep_ptrT {T0 : TypeId} {X : List Nat} {t : TypeId} {n : Nat} {cs : Array Value} (ht : t ≠ T0) : ∀ d v w w', PastN T0 X w w' → PtrN X t n cs d v w → PtrN X t n cs d v w' := fun _ _ _ _ h ⟨g, k, e, hk, hn, hb⟩ => ⟨g, k, e, hk, hn, h.blk hb hn ht⟩

end Go.Proofs.YtiinmhfolfgobaaGreatDoor
