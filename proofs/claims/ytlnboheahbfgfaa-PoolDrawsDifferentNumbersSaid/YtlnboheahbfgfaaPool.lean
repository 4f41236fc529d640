/- Walks: pool.sets. -/
import Derived.Test.YtlnboheahbfgfaaBase
import Derived.Test.YtlnboheahbfgfaaPlainA
namespace Go.Proofs.Ytlnboheahbfgfaa
open Go.RowKit

theorem sets_out (n k : Int) (w : World) (h : k < 0 ∨ n < k) :
    Calls Try.prog 21 #[.int .i64 n, .int .i64 k] w fun e w' => e = .returned (.int .i64 0) ∧ w = w' := by
  by_cases h1 : k < 0
  · go_enter Try.func21, Try.ntmps21
    go_wp2
    go_ret
    exact ⟨rfl, rfl⟩
  · have h2 : n < k := by omega
    have h1' : decide (k < 0) = false := by simp; omega
    clear h
    go_enter Try.func21, Try.ntmps21
    go_wp2
    go_ret
    exact ⟨rfl, rfl⟩

theorem infoInt : (Try.prog.info? 3).map (fun i => (i.zero, i.size, i.bytes)) = some (some (.int .i64 0), 1, 8) := by kernel_rfl

/-- The block of the row: place m holds g m. -/
def RowIs (w wr : World) (k : Nat) (g : Nat → Nat) : Prop :=
  (∀ m, m ≤ k → wr.cell? ⟨w.heap.size, m, none⟩ = some (.int .i64 (g m))) ∧ (∀ m, wr.frozen? ⟨w.heap.size, m, none⟩ = false) ∧ Below w.heap.size w wr

theorem RowIs.congr {w wr : World} {k : Nat} {g g' : Nat → Nat} (h : RowIs w wr k g) (e : ∀ m, m ≤ k → g m = g' m) : RowIs w wr k g' :=
  ⟨fun m hm => by rw [← e m hm]; exact h.1 m hm, h.2⟩
theorem RowIs.store {w wr : World} {k : Nat} {g g' : Nat → Nat} (h : RowIs w wr k g) (p : Nat) (hp : p ≤ k) (x : Int) (hx : x = g' p) (he : ∀ m, m ≠ p → g m = g' m) :
    RowIs w (wr.setCell ⟨w.heap.size, p, none⟩ (.int .i64 x)) k g' := by
  obtain ⟨h1, h2, h3⟩ := h
  have c := h1 p hp
  refine ⟨?_, ?_, h3.setCell (Nat.le_refl _) _⟩
  · intro m hm
    by_cases e : m = p
    · subst e; subst hx; rw [World.cell?_setCell_same _ _ _ c]
    · rw [World.cell?_setCell_other, h1 m hm, he m e]
      intro h; injection h with _ h; exact e h.symm
  · intro m; rw [World.frozen?_setCell]; exact h2 m
theorem RowIs.drew {w wr : World} {k : Nat} {g : Nat → Nat} (h : RowIs w wr k g) : RowIs w wr.drew k g := ⟨h.1, h.2.1, h.2.2.drew⟩
theorem RowIs.start (w : World) (k : Nat) (C : Array Value) (g : Nat → Nat) (hC : C.size = k + 1) (hC0 : ∀ j, j < k + 1 → C[j]? = some (.int .i64 0)) (h0 : g 0 = 1) (h1 : ∀ m, 0 < m → g m = 0) :
    RowIs w (w.alloc (.cells (C.setIfInBounds 0 (.int .i64 1)) 3)) k g := by
  refine ⟨?_, ?_, (Below.refl _ _).alloc (Nat.le_refl _) _⟩
  · intro m hm
    rw [World.cell?_alloc_new]
    by_cases e : m = 0
    · subst e; rw [h0]; simp [hC]
    · rw [h1 m (by omega)]; simp [Array.getElem?_setIfInBounds, hC0 m (by omega)]; omega
  · intro m; rw [World.frozen?_alloc_new]

set_option maxRecDepth 100000 in
set_option maxHeartbeats 400000 in
theorem sets_in (n k : Nat) (w : World) (hk : k ≤ n) (hn : n ≤ 60) :
    Calls Try.prog 21 #[.int .i64 n, .int .i64 k] w fun e w' => e = .returned (.int .i64 (bin n k)) ∧ Below w.heap.size w w' := by
  obtain ⟨i0, hi, hz0, hz1, hz2⟩ := info_parts infoInt
  obtain ⟨C, hC, hC0, hmk⟩ := make_named (P := Try.prog) w 24 3 i0 (.int .i64 0) Try.underlying24 hi hz0 hz1 rfl ((k : Int) + 1) (by omega) (by rw [hz2]; omega) (by omega)
  have hk1 : ((k : Int) + 1).toNat = k + 1 := by omega
  rw [hk1] at hmk hC hC0
  have hC00 := hC0 0 (by omega)
  have h1' : decide ((k : Int) < 0) = false := by simp
  have h2' : decide (n < k) = false := by simp; omega
  have HC := Lib.hid hC; clear hC hk1
  have HC0 := Lib.hid hC0; clear hC0
  go_enter Try.func21, Try.ntmps21
  go_wp2
  clear hmk h1' h2' hC00
  go_loopw [20] (fun i wr => ∃ q : Nat, q ≤ n ∧ i = .int .i64 q ∧ RowIs w wr k (bin q)) (fun i _ => n - (intOf i).toNat)
  case atStart =>
    exact ⟨0, Nat.zero_le _, rfl, RowIs.start w k C _ HC.out HC0.out (bin_zero 0) (fun m hm => bin_gt 0 m hm)⟩
  case round =>
    obtain ⟨q, hq, rfl, hrow⟩ := hrel
    by_cases hlt : q < n
    · go_wp2
      go_loopw [6] (fun j wx => ∃ p : Nat, p ≤ k ∧ j = .int .i64 p ∧ RowIs w wx k (mid q p)) (fun j _ => (intOf j).toNat)
      case atStart =>
        exact ⟨k, Nat.le_refl _, rfl, hrow.congr (fun m hm => (mid_start q k m hm).symm)⟩
      case round =>
        obtain ⟨p, hp, rfl, hrow⟩ := hrel
        obtain ⟨hcell, hfr, hbel⟩ := hrow
        by_cases h0 : 0 < p
        · have c1 := hcell p hp
          have c2 := hcell (p - 1) (by omega)
          have f1 := hfr p
          have hm := mid_hit q p h0
          have hbb := bin_60 (q + 1) p (by omega)
          have HC := Lib.hid hcell; clear hcell
          have HF := Lib.hid hfr; clear hfr
          go_wp2
          go_region
          go_wp2
          go_roundw
          case rel => exact ⟨p - 1, by omega, by go_num, (RowIs.store ⟨HC.out, HF.out, hbel⟩ p hp _ (by rw [mid_eq q p h0]; omega) (fun m e => (mid_other q p m e h0).symm)).drew⟩
          case measure => simp [intOf]; omega
        · obtain rfl : p = 0 := by omega
          go_wp2
          go_roundw
          case rel => exact ⟨q + 1, by omega, by go_num, RowIs.congr ⟨hcell, hfr, hbel⟩ (fun m _ => mid_end q m)⟩
          case measure => simp [intOf]; omega
    · obtain rfl : q = n := by omega
      obtain ⟨hcell, hfr, hbel⟩ := hrow
      have c1 := hcell k (by omega)
      clear hcell hfr
      go_wp2
      go_ret
      exact ⟨rfl, hbel⟩
end Go.Proofs.Ytlnboheahbfgfaa
