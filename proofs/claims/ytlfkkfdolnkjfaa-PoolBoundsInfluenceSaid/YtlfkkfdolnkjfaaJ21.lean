/- Texts joined: Pool, PoolB -/
import Derived.Test.YtlfkkfdolnkjfaaBase
import Derived.Test.YtlfkkfdolnkjfaaPlainA
namespace Go.Proofs.Ytlfkkfdolnkjfaa
open Go.RowKit

theorem sets_out (n k : Int) (w : World) (h : k < 0 ∨ n < k) :
    Calls Try.prog 122 #[.int .i64 n, .int .i64 k] w fun e w' => e = .returned (.int .i64 0) ∧ w = w' := by
  by_cases h1 : k < 0
  · go_enter Try.func122, Try.ntmps122
    go_wp2
    go_ret
    exact ⟨rfl, rfl⟩
  · have h2 : n < k := by omega
    have h1' : decide (k < 0) = false := by simp; omega
    clear h
    go_enter Try.func122, Try.ntmps122
    go_wp2
    go_ret
    exact ⟨rfl, rfl⟩

theorem infoInt : (Try.prog.info? 3).map (fun i => (i.zero, i.size, i.bytes)) = some (some (.int .i64 0), 1, 8) := by kernel_rfl

/-- The block of the row: place m holds g m. -/
def RowIs (w wr : World) (k : Nat) (g : Nat → Nat) : Prop :=
  (∀ m, m ≤ k → wr.cell? ⟨w.heap.size, m, none⟩ = some (.int .i64 (g m))) ∧ (∀ m, wr.frozen? ⟨w.heap.size, m, none⟩ = false) ∧ Below w.heap.size w wr

theorem RowIs.congr {w wr : World} {k : Nat} {g g' : Nat → Nat} (h : RowIs w wr k g) (e : ∀ m, m ≤ k → g m = g' m) : RowIs w wr k g' :=
  ⟨fun m hm => by rw [← e m hm]; exact h.1 m hm, h.2⟩
theorem RowIs.store {w wr : World} {k : Nat} {g g' : Nat → Nat} (h : RowIs w wr k g) (p : Nat) (hp : p ≤ k) (x : Int) (hx : x = g' p) (he : ∀ m, m ≠ p → g m = g' m) :
    RowIs w (wr.setCell ⟨w.heap.size, p, none⟩ (.int .i64 x)) k g' := by
  obtain ⟨h1, h2, h3⟩ := h
  have c := h1 p hp
  refine ⟨?_, ?_, h3.setCell (Nat.le_refl _) _⟩
  · intro m hm
    by_cases e : m = p
    · subst e; subst hx; rw [World.cell?_setCell_same _ _ _ c]
    · rw [World.cell?_setCell_other, h1 m hm, he m e]
      intro h; injection h with _ h; exact e h.symm
  · intro m; rw [World.frozen?_setCell]; exact h2 m
theorem RowIs.drew {w wr : World} {k : Nat} {g : Nat → Nat} (h : RowIs w wr k g) : RowIs w wr.drew k g := ⟨h.1, h.2.1, h.2.2.drew⟩
theorem RowIs.start (w : World) (k : Nat) (C : Array Value) (g : Nat → Nat) (hC : C.size = k + 1) (hC0 : ∀ j, j < k + 1 → C[j]? = some (.int .i64 0)) (h0 : g 0 = 1) (h1 : ∀ m, 0 < m → g m = 0) :
    RowIs w (w.alloc (.cells (C.setIfInBounds 0 (.int .i64 1)) 3)) k g := by
  refine ⟨?_, ?_, (Below.refl _ _).alloc (Nat.le_refl _) _⟩
  · intro m hm
    rw [World.cell?_alloc_new]
    by_cases e : m = 0
    · subst e; rw [h0]; simp [hC]
    · rw [h1 m (by omega)]; simp [Array.getElem?_setIfInBounds, hC0 m (by omega)]; omega
  · intro m; rw [World.frozen?_alloc_new]

set_option maxRecDepth 100000 in
set_option maxHeartbeats 400000 in
theorem sets_in (n k : Nat) (w : World) (hk : k ≤ n) (hn : n ≤ 60) :
    Calls Try.prog 122 #[.int .i64 n, .int .i64 k] w fun e w' => e = .returned (.int .i64 (bin n k)) ∧ Below w.heap.size w w' := by
  obtain ⟨i0, hi, hz0, hz1, hz2⟩ := info_parts infoInt
  obtain ⟨C, hC, hC0, hmk⟩ := make_named (P := Try.prog) w 22 3 i0 (.int .i64 0) Try.underlying22 hi hz0 hz1 rfl ((k : Int) + 1) (by omega) (by rw [hz2]; omega) (by omega)
  have hk1 : ((k : Int) + 1).toNat = k + 1 := by omega
  rw [hk1] at hmk hC hC0
  have hC00 := hC0 0 (by omega)
  have h1' : decide ((k : Int) < 0) = false := by simp
  have h2' : decide (n < k) = false := by simp; omega
  have HC := Lib.hid hC; clear hC hk1
  have HC0 := Lib.hid hC0; clear hC0
  go_enter Try.func122, Try.ntmps122
  go_wp2
  clear hmk h1' h2' hC00
  go_loopw [20] (fun i wr => ∃ q : Nat, q ≤ n ∧ i = .int .i64 q ∧ RowIs w wr k (bin q)) (fun i _ => n - (intOf i).toNat)
  case atStart =>
    exact ⟨0, Nat.zero_le _, rfl, RowIs.start w k C _ HC.out HC0.out (bin_zero 0) (fun m hm => bin_gt 0 m hm)⟩
  case round =>
    obtain ⟨q, hq, rfl, hrow⟩ := hrel
    by_cases hlt : q < n
    · go_wp2
      go_loopw [6] (fun j wx => ∃ p : Nat, p ≤ k ∧ j = .int .i64 p ∧ RowIs w wx k (mid q p)) (fun j _ => (intOf j).toNat)
      case atStart =>
        exact ⟨k, Nat.le_refl _, rfl, hrow.congr (fun m hm => (mid_start q k m hm).symm)⟩
      case round =>
        obtain ⟨p, hp, rfl, hrow⟩ := hrel
        obtain ⟨hcell, hfr, hbel⟩ := hrow
        by_cases h0 : 0 < p
        · have c1 := hcell p hp
          have c2 := hcell (p - 1) (by omega)
          have f1 := hfr p
          have hm := mid_hit q p h0
          have hbb := bin_60 (q + 1) p (by omega)
          have HC := Lib.hid hcell; clear hcell
          have HF := Lib.hid hfr; clear hfr
          go_wp2
          go_region
          go_wp2
          go_roundw
          case rel => exact ⟨p - 1, by omega, by go_num, (RowIs.store ⟨HC.out, HF.out, hbel⟩ p hp _ (by rw [mid_eq q p h0]; omega) (fun m e => (mid_other q p m e h0).symm)).drew⟩
          case measure => simp [intOf]; omega
        · obtain rfl : p = 0 := by omega
          go_wp2
          go_roundw
          case rel => exact ⟨q + 1, by omega, by go_num, RowIs.congr ⟨hcell, hfr, hbel⟩ (fun m _ => mid_end q m)⟩
          case measure => simp [intOf]; omega
    · obtain rfl : q = n := by omega
      obtain ⟨hcell, hfr, hbel⟩ := hrow
      have c1 := hcell k (by omega)
      clear hcell hfr
      go_wp2
      go_ret
      exact ⟨rfl, hbel⟩
end Go.Proofs.Ytlfkkfdolnkjfaa
namespace Go.Proofs.Ytlfkkfdolnkjfaa
open Go.RowKit

theorem sets_any (n k : Int) (w : World) (h0 : 0 ≤ n) (h1 : n ≤ 60) :
    Calls Try.prog 122 #[.int .i64 n, .int .i64 k] w fun e w' => e = .returned (.int .i64 (setsN n k)) ∧ Below w.heap.size w w' := by
  by_cases h : k < 0 ∨ n < k
  · rw [setsN_out n k h]
    exact (sets_out n k w h).mono fun e w' ⟨a, b⟩ => ⟨a, b ▸ Below.refl _ _⟩
  · obtain ⟨n, rfl⟩ := Int.eq_ofNat_of_zero_le h0
    obtain ⟨k, rfl⟩ := Int.eq_ofNat_of_zero_le (show 0 ≤ k by omega)
    rw [setsN_in n k (by omega)]
    exact sets_in n k w (by omega) (by omega)

/-- Choose. -/
def chooseN (n k : Int) : Int × Int := if n < 0 ∨ 60 < n then (0, 4) else (setsN n k, 0)
theorem chooseN_out {n k : Int} (h : n < 0 ∨ 60 < n) : chooseN n k = (0, 4) := by unfold chooseN; rw [if_pos h]
theorem chooseN_in {n k : Int} (h0 : 0 ≤ n) (h1 : n ≤ 60) : chooseN n k = (setsN n k, 0) := by unfold chooseN; rw [if_neg (by omega)]

theorem choose_any (n k : Int) (w : World) :
    Calls Try.prog 90 #[.int .i64 n, .int .i64 k] w fun e w' => e = .returned (.tuple #[.int .i64 (chooseN n k).1, .int .i64 (chooseN n k).2]) ∧ Below w.heap.size w w' := by
  by_cases h0 : n < 0
  · rw [chooseN_out (k := k) (.inl h0)]
    go_enter Try.func90, Try.ntmps90
    go_wp2
    go_ret2
    exact ⟨rfl, Below.refl _ _⟩
  by_cases h1 : 60 < n
  · rw [chooseN_out (k := k) (.inr h1)]
    have h0' : decide (n < 0) = false := by simpa using h0
    go_enter Try.func90, Try.ntmps90
    go_wp2
    go_ret2
    exact ⟨rfl, Below.refl _ _⟩
  · rw [chooseN_in (k := k) (show 0 ≤ n by omega) (show n ≤ 60 by omega)]
    have h0' : decide (n < 0) = false := by simpa using h0
    have h1' : decide (60 < n) = false := by simpa using h1
    go_enter Try.func90, Try.ntmps90
    go_wp2_with (go_at_call 122; refine (sets_any _ _ _ (by omega) (by omega)).mono ?_; rintro e w' ⟨rfl, hb⟩)
    go_ret2
    exact ⟨rfl, hb⟩

/-- Risk. -/
def RiskBad (n bad k f : Int) : Prop := n < 0 ∨ 60 < n ∨ bad < 0 ∨ n < bad ∨ k < 0 ∨ n < k ∨ f < 0
instance (n bad k f : Int) : Decidable (RiskBad n bad k f) := by unfold RiskBad; infer_instance
def riskN (n bad k f : Int) : Int × Int × Int := if RiskBad n bad k f then (0, 0, 4) else (sumTo (limb n bad k f) (k + 1).toNat, setsN n k, 0)

theorem risk_bad (n bad k f : Int) (w : World) (h : RiskBad n bad k f) :
    Calls Try.prog 91 #[.int .i64 n, .int .i64 bad, .int .i64 k, .int .i64 f] w fun e w' => e = .returned (.tuple #[.int .i64 0, .int .i64 0, .int .i64 4]) ∧ Below w.heap.size w w' := by
  unfold RiskBad at h
  by_cases h0 : n < 0
  · clear h; go_enter Try.func91, Try.ntmps91
    go_wp2; go_ret3; exact ⟨rfl, Below.refl _ _⟩
  have h0' : decide (n < 0) = false := by simpa using h0
  by_cases h1 : 60 < n
  · clear h; go_enter Try.func91, Try.ntmps91
    go_wp2; go_ret3; exact ⟨rfl, Below.refl _ _⟩
  have h1' : decide (60 < n) = false := by simpa using h1
  by_cases h2 : bad < 0
  · clear h; go_enter Try.func91, Try.ntmps91
    go_wp2; go_ret3; exact ⟨rfl, Below.refl _ _⟩
  have h2' : decide (bad < 0) = false := by simpa using h2
  by_cases h3 : n < bad
  · clear h; go_enter Try.func91, Try.ntmps91
    go_wp2; go_ret3; exact ⟨rfl, Below.refl _ _⟩
  have h3' : decide (n < bad) = false := by simpa using h3
  by_cases h4 : k < 0
  · clear h; go_enter Try.func91, Try.ntmps91
    go_wp2; go_ret3; exact ⟨rfl, Below.refl _ _⟩
  have h4' : decide (k < 0) = false := by simpa using h4
  by_cases h5 : n < k
  · clear h; go_enter Try.func91, Try.ntmps91
    go_wp2; go_ret3; exact ⟨rfl, Below.refl _ _⟩
  have h5' : decide (n < k) = false := by simpa using h5
  have h6 : f < 0 := by omega
  clear h; go_enter Try.func91, Try.ntmps91
  go_wp2; go_ret3; exact ⟨rfl, Below.refl _ _⟩

set_option maxRecDepth 100000 in
set_option maxHeartbeats 400000 in
theorem risk_good (n bad k f : Int) (w : World) (h : ¬ RiskBad n bad k f) :
    Calls Try.prog 91 #[.int .i64 n, .int .i64 bad, .int .i64 k, .int .i64 f] w fun e w' =>
      e = .returned (.tuple #[.int .i64 (sumTo (limb n bad k f) (k + 1).toNat), .int .i64 (setsN n k), .int .i64 0]) ∧ Below w.heap.size w w' := by
  unfold RiskBad at h
  have h0 : 0 ≤ n := by omega
  have h1 : n ≤ 60 := by omega
  have h2 : 0 ≤ bad := by omega
  have h3 : bad ≤ n := by omega
  have h4 : 0 ≤ k := by omega
  have h5 : k ≤ n := by omega
  have h6 : 0 ≤ f := by omega
  clear h
  have h0' : decide (n < 0) = false := by simpa using h0
  have h1' : decide (60 < n) = false := by simpa using h1
  have h2' : decide (bad < 0) = false := by simpa using h2
  have h3' : decide (n < bad) = false := by simpa using h3
  have h4' : decide (k < 0) = false := by simpa using h4
  have h5' : decide (n < k) = false := by simpa using h5
  have h6' : decide (f < 0) = false := by simpa using h6
  go_enter Try.func91, Try.ntmps91
  go_wp2
  clear h0' h1' h2' h3' h4' h5' h6'
  go_loopw [8, 42] (fun o i wr => ∃ q : Nat, (q : Int) ≤ k + 1 ∧ i = .int .i64 q ∧ o = .int .i64 (sumTo (limb n bad k f) q) ∧ Below w.heap.size w wr) (fun _ i _ => (k + 1 - intOf i).toNat)
  case atStart => exact ⟨0, by omega, rfl, rfl, Below.refl _ _⟩
  case round =>
    obtain ⟨q, hq, rfl, rfl, hbel⟩ := hrel
    have s0 := sumTo_nonneg (limb n bad k f) (limb_nonneg n bad k f) q
    have s1 := over_le n bad k f h2 h3 h1 (q + 1)
    have s2 := limb_nonneg n bad k f q
    have s3 : sumTo (limb n bad k f) (q + 1) = sumTo (limb n bad k f) q + limb n bad k f q := rfl
    by_cases hlt : (q : Int) < k + 1
    · by_cases hf : f < q
      · have s4 : limb n bad k f q = setsN bad q * setsN (n - bad) (k - q) := by unfold limb; rw [if_pos hf]
        rw [s4] at s3 s2
        rw [s3] at s1
        have S3 := Lib.hid s3; clear s3 s4
        go_wp2_with (go_at_call 122; refine (sets_any _ _ _ (by omega) (by omega)).mono ?_; rintro e w' ⟨rfl, hb⟩; replace hbel := hbel.trans (hb.mono hbel.size); clear hb)
        go_roundw
        case rel => exact ⟨q + 1, by omega, by go_num, by rw [S3.out], hbel⟩
        case measure => simp [intOf]; omega
      · have s4 : limb n bad k f q = 0 := by unfold limb; rw [if_neg hf]
        have S3 : Hid (sumTo (limb n bad k f) (q + 1) = sumTo (limb n bad k f) q) := by rw [s3, s4]; exact Int.add_zero _
        clear s3 s4
        go_wp2
        go_roundw
        case rel => exact ⟨q + 1, by omega, by go_num, by rw [S3.out], hbel⟩
        case measure => simp [intOf]; omega
    · have hqk : (k + 1).toNat = q := by omega
      have HQ := Lib.hid hqk; clear hqk s3
      go_wp2_with (go_at_call 122; refine (sets_any _ _ _ (by omega) (by omega)).mono ?_; rintro e w' ⟨rfl, hb⟩)
      go_ret3
      exact ⟨by rw [HQ.out]; rfl, hbel.trans (hb.mono hbel.size)⟩
theorem risk_any (n bad k f : Int) (w : World) :
    Calls Try.prog 91 #[.int .i64 n, .int .i64 bad, .int .i64 k, .int .i64 f] w fun e w' =>
      e = .returned (.tuple #[.int .i64 (riskN n bad k f).1, .int .i64 (riskN n bad k f).2.1, .int .i64 (riskN n bad k f).2.2]) ∧ Below w.heap.size w w' := by
  by_cases h : RiskBad n bad k f
  · have e : riskN n bad k f = (0, 0, 4) := by unfold riskN; rw [if_pos h]
    rw [e]; exact risk_bad n bad k f w h
  · have e : riskN n bad k f = (sumTo (limb n bad k f) (k + 1).toNat, setsN n k, 0) := by unfold riskN; rw [if_neg h]
    rw [e]; exact risk_good n bad k f w h
end Go.Proofs.Ytlfkkfdolnkjfaa
