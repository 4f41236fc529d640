/- Walks: the tape of numbers (sectimecase.Tape). -/
import Derived.BigQuiet
import Derived.Deep.QuietTactic
import Derived.Deep.RegionHeld3
import Derived.Test.YtiinmhfolfgobaaGreatDoorJ5
import Derived.Test.YtiinmhfolfgobaaGreatDoorJ1
set_option linter.unusedVariables false
set_option linter.unusedSimpArgs false
namespace Go.Proofs.YtiinmhfolfgobaaGreatDoor
open Go.RowKit
set_option maxHeartbeats 8000000
def TapeAt (w : World) (b : Nat) : Prop := ∃ (g off len cap k : Nat) (A : Option Addr) (zs : List Int), w.cell? ⟨b, 0, none⟩ = some (.slice A len cap) ∧ w.cell? ⟨b, 1, none⟩ = some (.int .i64 k) ∧ w.frozen? ⟨b, 1, none⟩ = false ∧ k ≤ len ∧
 len ≤ 9223372036854775807 ∧ (k < len → A = some ⟨g, off, none⟩ ∧ g < b ∧ ∀ j, j < len → w.cell? ⟨g, off + j, none⟩ = some (.int .i64 (zs.getD j 0)) ∧ IntIn (zs.getD j 0))
theorem grown_put (w : World) (n m : Nat) (a : Addr) (v : Value) : w.grownBy (((w.drewN n).setCell a v).drewN m) (some a.block) := by
 have hb : Below 0 w (((w.drewN n).setCell a v).drewN m) := below_drewN ((below_drewN (Below.refl 0 w) n).setCell (Nat.zero_le _) v) m
 exact ⟨hb.os, hb.tape, hb.output, hb.size, fun k _ hk => Below.heap_setCell (w.drewN n) a v k (fun q => hk (by rw [q]))⟩
theorem grown_drewN (w : World) (n : Nat) (r : Option Nat) : w.grownBy (w.drewN n) r := ⟨rfl, rfl, rfl, Nat.le_refl _, fun _ _ _ => rfl⟩
theorem grown_trans {a b c : World} {r : Option Nat} (h : a.grownBy b r) (k : b.grownBy c r) : a.grownBy c r :=
 ⟨k.os.trans h.os, k.tape.trans h.tape, k.output.trans h.output, Nat.le_trans h.size k.size, fun q hq hr => (k.block q (Nat.lt_of_lt_of_le hq h.size) hr).trans (h.block q hq hr)⟩
theorem grown_below {a b : World} {r : Option Nat} (h : Below a.heap.size a b) : a.grownBy b r := ⟨h.os, h.tape, h.output, h.size, fun k hk _ => h.block k hk⟩
theorem below_grown {B b : Nat} {a w w' : World} (h : Below B a w) (hg : w.grownBy w' (some b)) (hB : B ≤ b) (hw : B ≤ w.heap.size) : Below B a w' :=
 h.grown hg hw (fun k hk => by cases hk; exact hB)
theorem TapeAt.kept {w w' : World} {b : Nat} (h : TapeAt w b) (hb : ∀ k, k ≤ b → w'.heap[k]? = w.heap[k]?) : TapeAt w' b := by
 obtain ⟨g, off, len, cap, k, A, zs, h0, h1, hz, hk, hl, hs⟩ := h
 refine ⟨g, off, len, cap, k, A, zs, (World.cell?_of_block (hb b (Nat.le_refl _))).trans h0, (World.cell?_of_block (hb b (Nat.le_refl _))).trans h1, (World.frozen?_of_block (a := ⟨b, 1, none⟩) (hb b (Nat.le_refl _))).trans hz, hk, hl, fun hlt => ?_⟩
 obtain ⟨e, hg, hs⟩ := hs hlt
 exact ⟨e, hg, fun j hj => ⟨(World.cell?_of_block (hb g Yo)).trans (hs j hj).1, (hs j hj).2⟩⟩
theorem TapeAt.lt {w : World} {b : Nat} (h : TapeAt w b) : b < w.heap.size := by
 obtain ⟨g, off, len, cap, k, A, zs, h0, _⟩ := h
 exact World.block_lt_of_cell? w _ h0
theorem TapeAt.below {w w' : World} {b : Nat} (h : TapeAt w b) (hb : Below w.heap.size w w') : TapeAt w' b :=
 h.kept fun k hk => hb.block k (Nat.lt_of_le_of_lt hk h.lt)
theorem TapeAt.set {w : World} {b : Nat} (h : TapeAt w b) {a : Addr} (ha : b < a.block) (v : Value) : TapeAt (w.setCell a v) b :=
 h.kept fun k hk => Below.heap_setCell w a v k Yo
theorem TapeAt.alloc {w : World} {b : Nat} (h : TapeAt w b) (o : Obj) : TapeAt (w.alloc o) b := h.below ((Below.refl _ _).alloc (Nat.le_refl _) _)
theorem TapeAt.drew {w : World} {b : Nat} (h : TapeAt w b) : TapeAt w.drew b := h.below (Below.refl _ _).drew
theorem next_any (b : Nat) (w : World) (h : TapeAt w b) : Calls Tryz.prog 36 #[.pointer (some ⟨b, 0, none⟩)] w fun e w' => ∃ v, e = .returned (.int .i64 v) ∧ IntIn v ∧ TapeAt w' b ∧ w.grownBy w' (some b) := by
 obtain ⟨g, off, len, cap, k, A, zs, h0, h1, hz, hk, hl, hs⟩ := id h
 have hbs := World.block_lt_of_cell? w _ h0
 have H := Yh h; clear h
 by_cases hlt : k < len
 ·obtain ⟨rfl, hg, hs'⟩ := hs hlt
  have c := (hs' k hlt).1
  have hin := (hs' k hlt).2
  have HS := Yh hs'
  clear hs' hs
  generalize zs.getD k 0 = v at c hin
  go_enter Tryz.func36, Tryz.ntmps36
  go_wp2_with fail
  go_quiet (fail)
  go_wp2_with fail
  go_quiet (fail)
  go_wp2
  go_ret
  refine ⟨v, rfl, hin, ⟨g, off, len, cap, k + 1, _, zs, by simp [go_sem, h0], by simp [go_sem, h1], by simp [go_sem, hz], Yo, hl, fun _ => ⟨rfl, hg, fun j hj => ⟨?_, (HS.out j hj).2⟩⟩⟩, grown_put w _ _ ⟨b, 1, none⟩ _⟩
  have c := (HS.out j hj).1
  have hg' : g ≠ b := by omega
  simp [go_sem, c, hg']
 ·clear hs
  go_enter Tryz.func36, Tryz.ntmps36
  go_wp2_with fail
  go_quiet (fail)
  go_wp2
  go_ret
  exact ⟨0, rfl, by unfold IntIn; omega, H.out.below (below_drewN (Below.refl _ _) _), grown_drewN _ _ _⟩
theorem int_any (b : Nat) (n : Int) (w : World) (h : TapeAt w b) (hn : 1 ≤ n) (hn2 : n ≤ 9223372036854775807) : Calls Tryz.prog 13 #[.pointer (some ⟨b, 0, none⟩), .int .i64 n] w fun e w' => ∃ v, e = .returned (.int .i64 v) ∧ 0 ≤ v ∧ v < n ∧ TapeAt w' b ∧ w.grownBy w' (some b) := by
 have H := Yh h; clear h
 go_enter Tryz.func13, Tryz.ntmps13
 go_wp2_with fail
 refine (next_any b _ H.out).mono ?_
 rintro e w1 ⟨v, rfl, hv, ht, hg⟩
 have HT := Yh ht; clear ht
 have m1 := Int.emod_nonneg v (b := n) Yo
 have m2 := Int.emod_lt_of_pos v (b := n) Yo
 go_wp2_with fail
 refine (within_any v n _ hn hn2).mono ?_
 rintro e w2 ⟨rfl, rfl⟩
 go_wp2
 go_ret
 exact ⟨_, rfl, m1, m2, HT.out, hg⟩
theorem range_any (b : Nat) (lo hi : Int) (w : World) (h : TapeAt w b) (h1 : lo ≤ hi) (h2 : -1000000000 ≤ lo) (h3 : hi ≤ 1000000000) : Calls Tryz.prog 28 #[.pointer (some ⟨b, 0, none⟩), .int .i64 lo, .int .i64 hi] w fun e w' => ∃ v, e = .returned (.int .i64 v) ∧ lo ≤ v ∧ v ≤ hi ∧ TapeAt w' b ∧ w.grownBy w' (some b) := by
 have H := Yh h; clear h
 go_enter Tryz.func28, Tryz.ntmps28
 go_wp2_with fail
 refine (int_any b _ _ H.out Yo Yo).mono ?_
 rintro e w1 ⟨v, rfl, hv, hv', ht, hg⟩
 have HT := Yh ht; clear ht
 go_wp2
 go_ret
 exact ⟨_, rfl, Yo, Yo, HT.out, hg⟩
theorem tbool_any (b : Nat) (n : Int) (w : World) (h : TapeAt w b) (hn : 1 ≤ n) (hn2 : n ≤ 1000000000) : Calls Tryz.prog 27 #[.pointer (some ⟨b, 0, none⟩), .int .i64 n] w fun e w' => ∃ v, e = .returned (.bool v) ∧ TapeAt w' b ∧ w.grownBy w' (some b) := by
 have H := Yh h; clear h
 go_enter Tryz.func27, Tryz.ntmps27
 go_wp2_with fail
 refine (int_any b _ _ H.out Yo Yo).mono ?_
 rintro e w1 ⟨v, rfl, hv, hv', ht, hg⟩
 have HT := Yh ht; clear ht
 go_wp2
 go_ret
 exact ⟨_, rfl, HT.out, hg⟩
theorem new_any (A : Option Addr) (len cap : Nat) (zs : List Int) (w : World) (h : IntsAt w A len zs) : Calls Tryz.prog 10 #[.slice A len cap] w fun e w' => e = .returned (.pointer (some ⟨w.heap.size, 0, none⟩)) ∧ TapeAt w' w.heap.size ∧ Below w.heap.size w w' := by
 have H := Yh h; clear h
 go_enter Tryz.func10, Tryz.ntmps10
 go_wp2
 go_ret
 refine ⟨rfl, ?_, (Below.refl _ _).alloc (Nat.le_refl _) _⟩
 obtain ⟨hl, hl2, hz, hA⟩ := H.out
 by_cases hn : 0 < len
 ·obtain ⟨g, off, rfl, hg, hc⟩ := hA hn
  refine ⟨g, off, len, cap, 0, _, zs, by simp [go_sem], by simp [go_sem], by simp [go_sem], Yo, Yo, fun _ => ⟨rfl, Yo, fun j hj => ⟨cell_below ((Below.refl _ _).alloc (Nat.le_refl _) _) (hc j hj), hz _ ?_⟩⟩⟩
  rw [Y8, Y9 Yo]
  simp
 ·exact ⟨0, 0, len, cap, 0, A, zs, by simp [go_sem], by simp [go_sem], by simp [go_sem], Yo, Yo, Yo⟩
end Go.Proofs.YtiinmhfolfgobaaGreatDoor
