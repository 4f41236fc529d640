/- The walk of the law PoolCounts: it returns true, and writes nothing that was there. -/
import Derived.Test.YtnjogepllhjcjaaPoolD
namespace Go.Proofs.Ytnjogepllhjcjaa
open Go.RowKit

/-- Two rows of four numbers. -/
def Grid (wr : World) (L : Nat) : Prop := ∀ q, q < 2 → ∃ (b : Nat) (x0 x1 x2 x3 : Int), wr.cell? ⟨L, q, none⟩ = some (.slice (some ⟨b, 0, none⟩) 4 4) ∧
  wr.cell? ⟨b, 0, none⟩ = some (.int .i64 x0) ∧ wr.cell? ⟨b, 1, none⟩ = some (.int .i64 x1) ∧ wr.cell? ⟨b, 2, none⟩ = some (.int .i64 x2) ∧ wr.cell? ⟨b, 3, none⟩ = some (.int .i64 x3)
theorem cell_below {w w' : World} {a : Addr} {v : Value} (hb : Below w.heap.size w w') (h : w.cell? a = some v) : w'.cell? a = some v := (hb.cell (World.block_lt_of_cell? w a h)).trans h
theorem Grid.below {wr w' : World} {L : Nat} (h : Grid wr L) (hb : Below wr.heap.size wr w') : Grid w' L := by
  intro q hq
  obtain ⟨b, x0, x1, x2, x3, h0, h1, h2, h3, h4⟩ := h q hq
  exact ⟨b, x0, x1, x2, x3, cell_below hb h0, cell_below hb h1, cell_below hb h2, cell_below hb h3, cell_below hb h4⟩

theorem Grid.start (w : World) (a0 a1 a2 a3 b0 b1 b2 b3 : Int) :
    Grid (((w.alloc (.cells #[.int .i64 a0, .int .i64 a1, .int .i64 a2, .int .i64 a3] 3)).alloc (.cells #[.int .i64 b0, .int .i64 b1, .int .i64 b2, .int .i64 b3] 3)).alloc
      (.cells #[.slice (some ⟨w.heap.size + 1, 0, none⟩) 4 4, .slice (some ⟨w.heap.size, 0, none⟩) 4 4] 23)) (w.heap.size + 1 + 1) := by
  intro q hq
  match q, hq with
  | 0, _ => exact ⟨w.heap.size + 1, b0, b1, b2, b3, by simp [go_sem], by simp [go_sem], by simp [go_sem], by simp [go_sem], by simp [go_sem]⟩
  | 1, _ => exact ⟨w.heap.size, a0, a1, a2, a3, by simp [go_sem], by simp [go_sem], by simp [go_sem], by simp [go_sem], by simp [go_sem]⟩

/-- Four cells of a row, and what was there: for the regions. -/
theorem kept_call {wr W w' : World} (hb : Below W.heap.size W w') (h : Below wr.heap.size wr W) : Below wr.heap.size wr w' := h.trans (hb.mono h.size)

set_option maxRecDepth 100000 in
set_option maxHeartbeats 1000000 in
theorem poolCounts_walk (n k bad f : Int) (w : World) :
    Calls Try.prog 3 #[.int .i64 n, .int .i64 k, .int .i64 bad, .int .i64 f] w fun e w' => e = .returned (.bool true) ∧ Below w.heap.size w w' := by
  have m1 := Int.emod_nonneg n (show (64 : Int) ≠ 0 by decide)
  have m2 := Int.emod_nonneg k (show (64 : Int) ≠ 0 by decide)
  have m3 := Int.emod_nonneg bad (show (64 : Int) ≠ 0 by decide)
  have m4 := Int.emod_nonneg f (show (10 : Int) ≠ 0 by decide)
  go_enter Try.func3, Try.ntmps3
  go_wp2_with (go_at_call 12; refine (within_any _ _ _ (by omega) (by omega)).mono ?_; rintro e w1 ⟨rfl, rfl⟩)
  clear m1 m2 m3 m4
  go_loopw [43] (fun i wr => ∃ q : Nat, q ≤ 2 ∧ i = .int .i64 q ∧ Grid wr (w.heap.size + 1 + 1) ∧ Below w.heap.size w wr) (fun i _ => (2 - intOf i).toNat)
  case atStart =>
    exact ⟨0, by omega, rfl, Grid.start _ _ _ _ _ _ _ _ _, (((Below.refl _ _).alloc (by simp) _).alloc (by simp) _).alloc (by simp; omega) _⟩
  case round =>
    obtain ⟨q, hq, rfl, hgrid, hbel⟩ := hrel
    by_cases hlt : q < 2
    · obtain ⟨b, x0, x1, x2, x3, c, c0, c1, c2, c3⟩ := hgrid q hlt
      have HG := Lib.hid hgrid; clear hgrid
      go_wp2
      go_region_held3 (fun w' => w'.cell? ⟨b, 0, none⟩ = some (.int .i64 x0) ∧ w'.cell? ⟨b, 1, none⟩ = some (.int .i64 x1) ∧ w'.cell? ⟨b, 2, none⟩ = some (.int .i64 x2) ∧ w'.cell? ⟨b, 3, none⟩ = some (.int .i64 x3) ∧ Below wr.heap.size wr w')
        ((go_split_ands; refine ⟨?_, ?_, ?_, ?_, ?_⟩ <;> first | exact cell_below hb (by assumption) | exact kept_call hb (by assumption) | (simp only [World.cell?_drew]; assumption) | exact (Below.refl _ _).drew | exact Below.drew (by assumption)))
        (first | (go_at_call 13; refine (choose_any _ _ _).mono ?_; rintro e w' ⟨rfl, hb⟩))
      go_wp2
      go_region_held3 (fun w' => w'.cell? ⟨b, 0, none⟩ = some (.int .i64 x0) ∧ w'.cell? ⟨b, 1, none⟩ = some (.int .i64 x1) ∧ w'.cell? ⟨b, 2, none⟩ = some (.int .i64 x2) ∧ w'.cell? ⟨b, 3, none⟩ = some (.int .i64 x3) ∧ Below wr.heap.size wr w')
        ((go_split_ands; refine ⟨?_, ?_, ?_, ?_, ?_⟩ <;> first | exact cell_below hb (by assumption) | exact kept_call hb (by assumption) | (simp only [World.cell?_drew]; assumption) | exact (Below.refl _ _).drew | exact Below.drew (by assumption)))
        (first | (go_at_call 14; refine (rchoose2_any _ _ _).mono ?_; rintro e w' ⟨rfl, hb⟩))
      go_wp2
      go_region_held3 (fun w' => w'.cell? ⟨b, 0, none⟩ = some (.int .i64 x0) ∧ w'.cell? ⟨b, 1, none⟩ = some (.int .i64 x1) ∧ w'.cell? ⟨b, 2, none⟩ = some (.int .i64 x2) ∧ w'.cell? ⟨b, 3, none⟩ = some (.int .i64 x3) ∧ Below wr.heap.size wr w')
        ((go_split_ands; refine ⟨?_, ?_, ?_, ?_, ?_⟩ <;> first | exact cell_below hb (by assumption) | exact kept_call hb (by assumption) | (simp only [World.cell?_drew]; assumption) | exact (Below.refl _ _).drew | exact Below.drew (by assumption)))
        (first | (go_at_call 15; refine (risk_any _ _ _ _ _).mono ?_; rintro e w' ⟨rfl, hb⟩))
      go_wp2
      go_region_held3 (fun w' => w'.cell? ⟨b, 0, none⟩ = some (.int .i64 x0) ∧ w'.cell? ⟨b, 1, none⟩ = some (.int .i64 x1) ∧ w'.cell? ⟨b, 2, none⟩ = some (.int .i64 x2) ∧ w'.cell? ⟨b, 3, none⟩ = some (.int .i64 x3) ∧ Below wr.heap.size wr w')
        ((go_split_ands; refine ⟨?_, ?_, ?_, ?_, ?_⟩ <;> first | exact cell_below hb (by assumption) | exact kept_call hb (by assumption) | (simp only [World.cell?_drew]; assumption) | exact (Below.refl _ _).drew | exact Below.drew (by assumption)))
        (first | (go_at_call 16; refine (rrisk_any _ _ _ _ _).mono ?_; rintro e w' ⟨rfl, hb⟩))
      have R : Below wr.heap.size wr w' := by go_split_ands; assumption
      have G := HG.out.below R
      have B := hbel.trans (R.mono hbel.size)
      clear c c0 c1 c2 c3
      go_wp2
      go_roundw
      case rel => exact ⟨q + 1, by omega, by go_num, G, B⟩
      case measure => simp [intOf]; omega
    · obtain rfl : q = 2 := by omega
      go_wp2_with (go_at_call 17; refine (known36_any _).mono ?_; rintro e w' ⟨rfl, hb⟩)
      go_ret
      exact ⟨rfl, kept_call hb hbel⟩
end Go.Proofs.Ytnjogepllhjcjaa
