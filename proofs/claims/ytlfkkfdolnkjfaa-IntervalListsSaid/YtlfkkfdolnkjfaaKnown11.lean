/- The walk of law11.known. -/
import Derived.Test.YtlfkkfdolnkjfaaUnionW
import Derived.Test.YtlfkkfdolnkjfaaI11O
namespace Go.Proofs.Ytlfkkfdolnkjfaa
open Go.RowKit Go.Shelf Go.Sort

theorem spansAt_three {w : World} {g : Nat} {a b c d e f : Int} {t : TypeId} (h : Blk w g t #[.int .i64 a, .int .i64 b, .int .i64 c, .int .i64 d, .int .i64 e, .int .i64 f]) : SpansAt w (some ⟨g, 0, none⟩) 3 [(a, b), (c, d), (e, f)] := by
  refine ⟨rfl, by omega, fun _ => ⟨g, 0, rfl, h.lt, fun j hj => ?_⟩⟩
  obtain rfl | rfl | rfl : j = 0 ∨ j = 1 ∨ j = 2 := by omega
  · exact ⟨by rw [h.cell]; rfl, by rw [h.cell]; rfl⟩
  · exact ⟨by rw [h.cell]; rfl, by rw [h.cell]; rfl⟩
  · exact ⟨by rw [h.cell]; rfl, by rw [h.cell]; rfl⟩
theorem merge_known {ds : List (Int × Int)} (h : SortedBy loC [(4, 9), (1, 3), (11, 12)] ds) : mergeS ds = [(1, 9), (11, 12)] := by
  obtain ⟨hp, hs⟩ := h
  have hl := hp.length_eq
  match ds, hl with
  | [a, b, c], _ =>
    have ha : a ∈ [((4 : Int), (9 : Int)), (1, 3), (11, 12)] := hp.mem_iff.1 (by simp)
    have hb : b ∈ [((4 : Int), (9 : Int)), (1, 3), (11, 12)] := hp.mem_iff.1 (by simp)
    have hc : c ∈ [((4 : Int), (9 : Int)), (1, 3), (11, 12)] := hp.mem_iff.1 (by simp)
    simp only [List.mem_cons, List.not_mem_nil, or_false] at ha hb hc
    rcases ha with rfl | rfl | rfl <;> rcases hb with rfl | rfl | rfl <;> rcases hc with rfl | rfl | rfl <;> first | rfl | (exfalso; revert hp; decide) | (exfalso; revert hs; decide)
theorem union_three (g : Nat) (w : World) (h : Blk w g 35 #[.int .i64 4, .int .i64 9, .int .i64 1, .int .i64 3, .int .i64 11, .int .i64 12]) :
    Calls Try.prog 24 #[.slice (some ⟨g, 0, none⟩) 3 3] w fun e w' => (∃ b off cap, e = .returned (.tuple #[.slice (some ⟨b, off, none⟩) 2 cap, .int .i64 0]) ∧ b < w'.heap.size ∧ w'.cell? ⟨b, off, none⟩ = some (.int .i64 1) ∧ w'.cell? ⟨b, off + 1, none⟩ = some (.int .i64 9)) ∧ Below w.heap.size w w' := by
  refine (union_any _ 3 3 [(4, 9), (1, 3), (11, 12)] w (spansAt_three h)).mono ?_
  rintro e w' ⟨hb, ⟨h1, _⟩ | ⟨_, h2, _⟩ | ⟨_, _, ds, A', cap, hs, he, hsp⟩⟩
  · exact absurd h1 (by decide)
  · exact absurd h2 (by decide)
  · rw [merge_known hs] at hsp he
    obtain ⟨b, off, rfl, hlt, hc⟩ := hsp.2.2 (by decide)
    obtain ⟨c0, c1⟩ := hc 0 (by decide)
    exact ⟨⟨b, off, cap, he, hlt, by simpa using c0, by simpa using c1⟩, hb⟩

set_option maxRecDepth 100000 in
set_option maxHeartbeats 2000000 in
theorem known11_any  (w : World) :
    Calls Try.prog 21 #[] w (RB w (.bool true)) := by
  have r1 := imeet_all 1 5 4 9
  rw [show mtLo 1 5 4 9 = 4 by decide, show mtHi 1 5 4 9 = 5 by decide, show mtB 1 5 4 9 = true by decide] at r1
  have R1 := Lib.hid r1; clear r1
  have R2 := Lib.hid union_three
  go_enter Try.func21, Try.ntmps21
  go_wp2_with fail
  refine (R1.out _).mono ?_
  rintro e w1 ⟨rfl, hb1⟩
  have K1 : Below w.heap.size w w1 := kept_call hb1 (by (repeat' (first | (with_reducible exact Below.refl _ _) | (with_reducible refine Below.setCell ?_ ?_ _) | (with_reducible refine Below.alloc ?_ ?_ _) | (with_reducible refine Below.drew ?_) | (with_reducible refine below_drewN ?_ _))) <;> (first | omega | (simp <;> omega)))
  have Z1 : w.heap.size ≤ w1.heap.size := K1.size
  clear hb1
  have b2_0 := Blk.new (w1.alloc (.cells #[.int .i64 4, .int .i64 5] 35)) 35 #[.int .i64 4, .int .i64 9, .int .i64 1, .int .i64 3, .int .i64 11, .int .i64 12]
  simp only [World.size_alloc] at b2_0
  go_wp2_with fail
  refine (R2.out _ _ (by first | exact b2_0 | exact b2_0.drew | (simpa using b2_0))).mono ?_
  rintro e w2 ⟨⟨b, off, cp, rfl, lt2, c20, c21⟩, hb2⟩
  clear b2_0
  have K2 : Below w.heap.size w w2 := kept_call hb2 (by (repeat' (first | (with_reducible exact K1) | (with_reducible refine Below.setCell ?_ ?_ _) | (with_reducible refine Below.alloc ?_ ?_ _) | (with_reducible refine Below.drew ?_) | (with_reducible refine below_drewN ?_ _))) <;> (first | omega | (simp <;> omega)))
  have Z2 : w.heap.size ≤ w2.heap.size := K2.size
  have b2_0 := Blk.keep (g := w1.heap.size) hb2 (by (repeat' (first | ((with_reducible refine' Blk.newE ?_); first | rfl | (simp; done)) | (with_reducible refine' Blk.alloc ?_ _) | (with_reducible refine' Blk.drew ?_) | (with_reducible refine' Blk.drewN ?_ _) | (with_reducible refine' Blk.put ?_ ?_) | (with_reducible refine' Blk.far ?_ ?_ _) | exact rfl)) <;> (first | omega | (simp <;> omega)))
  (try simp only [List.setIfInBounds_toArray, List.set_cons_zero, List.set_cons_succ] at b2_0)
  clear hb2 K1
  obtain ⟨c2_0, f2_0, l2_0, e2_0, k2_0⟩ := Blk.facts b2_0
  have o2_0 := l2_0
  go_wp2
  go_ret
  exact ⟨rfl, by (repeat' (first | (with_reducible exact K2) | (with_reducible refine Below.setCell ?_ ?_ _) | (with_reducible refine Below.alloc ?_ ?_ _) | (with_reducible refine Below.drew ?_) | (with_reducible refine below_drewN ?_ _))) <;> (first | omega | (simp <;> omega))⟩
end Go.Proofs.Ytlfkkfdolnkjfaa
