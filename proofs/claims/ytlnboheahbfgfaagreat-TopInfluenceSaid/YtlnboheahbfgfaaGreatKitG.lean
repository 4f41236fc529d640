/- Words for walks that are handed a tape: all blocks that were there are as they were, but the tape's. -/
import Derived.Deep.AppendLies
import Derived.OwnWalk
import Derived.Test.YtlnboheahbfgfaaGreatCalmP
import Derived.Test.YtlnboheahbfgfaaGreatLocal
namespace Go.Proofs.YtlnboheahbfgfaaGreat
open Go.RowKit
set_option linter.unusedSimpArgs false
set_option linter.unusedVariables false

/-- All blocks that were there are as they were, but the tape's. -/
def GB (b : Nat) (w w' : World) : Prop := w.grownBy w' (some b)
theorem GB.refl (b : Nat) (w : World) : GB b w w := ⟨rfl, rfl, rfl, Nat.le_refl _, fun _ _ _ => rfl⟩
theorem GB.trans {b : Nat} {a c d : World} (h : GB b a c) (k : GB b c d) : GB b a d := grown_trans h k
theorem GB.alloc {b : Nat} {w w' : World} (h : GB b w w') (o : Obj) : GB b w (w'.alloc o) := h.trans (grown_below ((Below.refl _ _).alloc (Nat.le_refl _) _))
theorem GB.drew {b : Nat} {w w' : World} (h : GB b w w') : GB b w w'.drew := h.trans (grown_below (Below.refl _ _).drew)
theorem GB.drewN {b : Nat} {w w' : World} (h : GB b w w') (n : Nat) : GB b w (w'.drewN n) := h.trans (grown_drewN _ _ _)
theorem GB.setCell {b : Nat} {w w' : World} {p : Addr} (h : GB b w w') (hp : w.heap.size ≤ p.block) (v : Value) : GB b w (w'.setCell p v) :=
  ⟨h.os, h.tape, h.output, by simp [World.setCell]; exact h.size, fun k hk hn => (Below.heap_setCell _ _ _ _ (by omega)).trans (h.block k hk hn)⟩
theorem GB.call {b : Nat} {w a c : World} (hb : Below a.heap.size a c) (h : GB b w a) : GB b w c := h.trans (grown_below hb)
theorem GB.tap {b : Nat} {w a c : World} (hg : a.grownBy c (some b)) (h : GB b w a) : GB b w c := h.trans hg
theorem Past.gb {b : Nat} {X : List Nat} {w a c : World} (h : GB b w a) (hp : Past X a c) (hX : ∀ k ∈ X, k = b ∨ w.heap.size ≤ k) : GB b w c :=
  ⟨hp.2.1.trans h.os, hp.2.2.1.trans h.tape, hp.2.2.2.1.trans h.output, Nat.le_trans h.size hp.1, fun k hk hn => (hp.2.2.2.2 k (Nat.lt_of_lt_of_le hk h.size) (fun hm => (hX k hm).elim (fun e => hn (by rw [e])) (fun e => absurd hk (by omega)))).trans (h.block k hk hn)⟩
theorem Past.own {X : List Nat} {w w' : World} {base : Nat} {e : TypeId} {size : Nat} {v : Value} {n : Nat} {xs : List Value} (hp : Past X w w') (h : w.ownsRow base e size v n xs) (hn : ∀ k, v.ownBlock = some k → k ∉ X) : w'.ownsRow base e size v n xs := by
  refine ⟨h.1, ?_⟩
  rcases h.2 with hq | ⟨g, cap, cur, rfl, hb, hgg, rest⟩
  · exact .inl hq
  · refine .inr ⟨g, cap, cur, rfl, hb, ?_, rest⟩
    rw [hp.2.2.2.2 g (Array.getElem?_eq_some_iff.1 hgg).1 (hn g rfl)]
    exact hgg
theorem Past.cell {X : List Nat} {w w' : World} {p : Addr} {v : Value} (h : Past X w w') (hn : p.block ∉ X) (hc : w.cell? p = some v) : w'.cell? p = some v :=
  (World.cell?_of_block (h.2.2.2.2 p.block (World.block_lt_of_cell? w p hc) hn)).trans hc
theorem calm_op {P : Program} {o : Oper} {a : Act} {w : World} {K : Act → World → Prop} {Q : Exit → Act → World → Prop} {b : Bool} {X : Prop} (hb : b = true) (h : o.wp P a w K Q) : if b = true then Oper.wp P o a w K Q else X := by rw [if_pos hb]; exact h
/-- A struct's cells, stored one after the other. -/
def setAll (w : World) (g : Nat) : Nat → List Value → World
  | _, [] => w
  | i, v :: l => setAll (w.setCell ⟨g, i, none⟩ v) g (i + 1) l
def setArr (cs : Array Value) : Nat → List Value → Array Value
  | _, [] => cs
  | i, v :: l => setArr (cs.setIfInBounds i v) (i + 1) l
theorem setAll_blk {g : Nat} {t : TypeId} : ∀ (l : List Value) (i : Nat) (w : World) (cs : Array Value), Blk w g t cs → Blk (setAll w g i l) g t (setArr cs i l)
  | [], _, _, _, h => h
  | _ :: l, i, w, cs, h => setAll_blk l (i + 1) _ _ (h.set_ i _)
/-- A list of numbers that is no part of the tape. -/
def NumsAt (w : World) (b : Nat) (A : Option Addr) (k : Nat) (es : List Int) : Prop := es.length = k ∧ ∃ (g : Nat) (cur : Array Value), A = some ⟨g, 0, none⟩ ∧ g ≠ b ∧ Blk w g 3 cur ∧ ∀ j, j < k → cur[j]? = some (.int .i64 (es.getD j 0))
theorem NumsAt.past {X : List Nat} {w w' : World} {b : Nat} {A : Option Addr} {k : Nat} {es : List Int} (h : NumsAt w b A k es) (hp : Past X w w') (hX : ∀ g, A = some ⟨g, 0, none⟩ → g ∉ X) : NumsAt w' b A k es := by
  obtain ⟨hl, g, cur, e, hn, hB, hc⟩ := h
  exact ⟨hl, g, cur, e, hn, hp.blk hB (hX g e), hc⟩
theorem NumsAt.gb {w w' : World} {b : Nat} {A : Option Addr} {k : Nat} {es : List Int} (h : NumsAt w b A k es) (hg : GB b w w') : NumsAt w' b A k es := by
  obtain ⟨hl, g, cur, e, hn, hB, hc⟩ := h
  exact ⟨hl, g, cur, e, hn, Blk.keepG hg hB hn, hc⟩
/-- A step of a schedule. -/
structure Stp where
  (src tr lo ou ol ho hl ba bl w2 w3 : Int)
def Stp.cs (x : Stp) : List Value := [.int .i64 x.src, .int .i64 x.tr, .int .i64 x.lo, .int .i64 x.ou, .int .i64 x.ol, .int .i64 x.ho, .int .i64 x.hl, .int .i64 x.ba, .int .i64 x.bl, .int .i64 x.w2, .int .i64 x.w3]
def Stp.zero : Stp := ⟨0, 0, 0, 0, 0, 0, 0, 0, 0, 0, 0⟩
/-- A list of steps. -/
def StepsAt (w : World) (b : Nat) (A : Option Addr) (xs : List Stp) : Prop := ∃ (g : Nat) (cur : Array Value), A = some ⟨g, 0, none⟩ ∧ g ≠ b ∧ Blk w g 57 cur ∧ ∀ j, j < xs.length → ∀ i, i < 11 → cur[j * 11 + i]? = (xs.getD j .zero).cs[i]?
theorem StepsAt.past {X : List Nat} {w w' : World} {b : Nat} {A : Option Addr} {xs : List Stp} (h : StepsAt w b A xs) (hp : Past X w w') (hX : ∀ g, A = some ⟨g, 0, none⟩ → g ∉ X) : StepsAt w' b A xs := by
  obtain ⟨g, cur, e, hn, hB, hc⟩ := h
  exact ⟨g, cur, e, hn, hp.blk hB (hX g e), hc⟩
theorem StepsAt.gb {w w' : World} {b : Nat} {A : Option Addr} {xs : List Stp} (h : StepsAt w b A xs) (hg : GB b w w') : StepsAt w' b A xs := by
  obtain ⟨g, cur, e, hn, hB, hc⟩ := h
  exact ⟨g, cur, e, hn, Blk.keepG hg hB hn, hc⟩
theorem Past.drewN {X : List Nat} {W w : World} (h : Past X W w) (n : Nat) : Past X W (w.drewN n) := h
theorem StepsAt.below {w w' : World} {b : Nat} {A : Option Addr} {xs : List Stp} (h : StepsAt w b A xs) (hg : Below w.heap.size w w') : StepsAt w' b A xs := h.gb (grown_below hg)
theorem NumsAt.below {w w' : World} {b : Nat} {A : Option Addr} {k : Nat} {es : List Int} (h : NumsAt w b A k es) (hg : Below w.heap.size w w') : NumsAt w' b A k es := h.gb (grown_below hg)
end Go.Proofs.YtlnboheahbfgfaaGreat
