/- Texts joined: Pool, PoolB, TopInfP -/
import Derived.Test.YtlnboheahbfgfaaGreatBase
import Derived.Test.YtlnboheahbfgfaaGreatPlainA
namespace Go.Proofs.YtlnboheahbfgfaaGreat
open Go.RowKit

theorem sets_out (n k : Int) (w : World) (h : k < 0 ∨ n < k) :
    Calls Tryz.prog 37 #[.int .i64 n, .int .i64 k] w fun e w' => e = .returned (.int .i64 0) ∧ w = w' := by
  by_cases h1 : k < 0
  · go_enter Tryz.func37, Tryz.ntmps37
    go_wp2
    go_ret
    exact ⟨rfl, rfl⟩
  · have h2 : n < k := by omega
    have h1' : decide (k < 0) = false := by simp; omega
    clear h
    go_enter Tryz.func37, Tryz.ntmps37
    go_wp2
    go_ret
    exact ⟨rfl, rfl⟩

theorem infoInt : (Tryz.prog.info? 3).map (fun i => (i.zero, i.size, i.bytes)) = some (some (.int .i64 0), 1, 8) := by kernel_rfl

/-- The block of the row: place m holds g m. -/
def RowIs (w wr : World) (k : Nat) (g : Nat → Nat) : Prop :=
  (∀ m, m ≤ k → wr.cell? ⟨w.heap.size, m, none⟩ = some (.int .i64 (g m))) ∧ (∀ m, wr.frozen? ⟨w.heap.size, m, none⟩ = false) ∧ Below w.heap.size w wr

theorem RowIs.congr {w wr : World} {k : Nat} {g g' : Nat → Nat} (h : RowIs w wr k g) (e : ∀ m, m ≤ k → g m = g' m) : RowIs w wr k g' :=
  ⟨fun m hm => by rw [← e m hm]; exact h.1 m hm, h.2⟩
theorem RowIs.store {w wr : World} {k : Nat} {g g' : Nat → Nat} (h : RowIs w wr k g) (p : Nat) (hp : p ≤ k) (x : Int) (hx : x = g' p) (he : ∀ m, m ≠ p → g m = g' m) :
    RowIs w (wr.setCell ⟨w.heap.size, p, none⟩ (.int .i64 x)) k g' := by
  obtain ⟨h1, h2, h3⟩ := h
  have c := h1 p hp
  refine ⟨?_, ?_, h3.setCell (Nat.le_refl _) _⟩
  · intro m hm
    by_cases e : m = p
    · subst e; subst hx; rw [World.cell?_setCell_same _ _ _ c]
    · rw [World.cell?_setCell_other, h1 m hm, he m e]
      intro h; injection h with _ h; exact e h.symm
  · intro m; rw [World.frozen?_setCell]; exact h2 m
theorem RowIs.drew {w wr : World} {k : Nat} {g : Nat → Nat} (h : RowIs w wr k g) : RowIs w wr.drew k g := ⟨h.1, h.2.1, h.2.2.drew⟩
theorem RowIs.start (w : World) (k : Nat) (C : Array Value) (g : Nat → Nat) (hC : C.size = k + 1) (hC0 : ∀ j, j < k + 1 → C[j]? = some (.int .i64 0)) (h0 : g 0 = 1) (h1 : ∀ m, 0 < m → g m = 0) :
    RowIs w (w.alloc (.cells (C.setIfInBounds 0 (.int .i64 1)) 3)) k g := by
  refine ⟨?_, ?_, (Below.refl _ _).alloc (Nat.le_refl _) _⟩
  · intro m hm
    rw [World.cell?_alloc_new]
    by_cases e : m = 0
    · subst e; rw [h0]; simp [hC]
    · rw [h1 m (by omega)]; simp [Array.getElem?_setIfInBounds, hC0 m (by omega)]; omega
  · intro m; rw [World.frozen?_alloc_new]

set_option maxRecDepth 100000 in
set_option maxHeartbeats 400000 in
theorem sets_in (n k : Nat) (w : World) (hk : k ≤ n) (hn : n ≤ 60) :
    Calls Tryz.prog 37 #[.int .i64 n, .int .i64 k] w fun e w' => e = .returned (.int .i64 (bin n k)) ∧ Below w.heap.size w w' := by
  obtain ⟨i0, hi, hz0, hz1, hz2⟩ := info_parts infoInt
  obtain ⟨C, hC, hC0, hmk⟩ := make_named (P := Tryz.prog) w 22 3 i0 (.int .i64 0) Tryz.underlying22 hi hz0 hz1 rfl ((k : Int) + 1) (by omega) (by rw [hz2]; omega) (by omega)
  have hk1 : ((k : Int) + 1).toNat = k + 1 := by omega
  rw [hk1] at hmk hC hC0
  have hC00 := hC0 0 (by omega)
  have h1' : decide ((k : Int) < 0) = false := by simp
  have h2' : decide (n < k) = false := by simp; omega
  have HC := Lib.hid hC; clear hC hk1
  have HC0 := Lib.hid hC0; clear hC0
  go_enter Tryz.func37, Tryz.ntmps37
  go_wp2
  clear hmk h1' h2' hC00
  go_loopw [20] (fun i wr => ∃ q : Nat, q ≤ n ∧ i = .int .i64 q ∧ RowIs w wr k (bin q)) (fun i _ => n - (intOf i).toNat)
  case atStart =>
    exact ⟨0, Nat.zero_le _, rfl, RowIs.start w k C _ HC.out HC0.out (bin_zero 0) (fun m hm => bin_gt 0 m hm)⟩
  case round =>
    obtain ⟨q, hq, rfl, hrow⟩ := hrel
    by_cases hlt : q < n
    · go_wp2
      go_loopw [6] (fun j wx => ∃ p : Nat, p ≤ k ∧ j = .int .i64 p ∧ RowIs w wx k (mid q p)) (fun j _ => (intOf j).toNat)
      case atStart =>
        exact ⟨k, Nat.le_refl _, rfl, hrow.congr (fun m hm => (mid_start q k m hm).symm)⟩
      case round =>
        obtain ⟨p, hp, rfl, hrow⟩ := hrel
        obtain ⟨hcell, hfr, hbel⟩ := hrow
        by_cases h0 : 0 < p
        · have c1 := hcell p hp
          have c2 := hcell (p - 1) (by omega)
          have f1 := hfr p
          have hm := mid_hit q p h0
          have hbb := bin_60 (q + 1) p (by omega)
          have HC := Lib.hid hcell; clear hcell
          have HF := Lib.hid hfr; clear hfr
          go_wp2
          go_region
          go_wp2
          go_roundw
          case rel => exact ⟨p - 1, by omega, by go_num, (RowIs.store ⟨HC.out, HF.out, hbel⟩ p hp _ (by rw [mid_eq q p h0]; omega) (fun m e => (mid_other q p m e h0).symm)).drew⟩
          case measure => simp [intOf]; omega
        · obtain rfl : p = 0 := by omega
          go_wp2
          go_roundw
          case rel => exact ⟨q + 1, by omega, by go_num, RowIs.congr ⟨hcell, hfr, hbel⟩ (fun m _ => mid_end q m)⟩
          case measure => simp [intOf]; omega
    · obtain rfl : q = n := by omega
      obtain ⟨hcell, hfr, hbel⟩ := hrow
      have c1 := hcell k (by omega)
      clear hcell hfr
      go_wp2
      go_ret
      exact ⟨rfl, hbel⟩
end Go.Proofs.YtlnboheahbfgfaaGreat
namespace Go.Proofs.YtlnboheahbfgfaaGreat
open Go.RowKit

theorem sets_any (n k : Int) (w : World) (h0 : 0 ≤ n) (h1 : n ≤ 60) :
    Calls Tryz.prog 37 #[.int .i64 n, .int .i64 k] w fun e w' => e = .returned (.int .i64 (setsN n k)) ∧ Below w.heap.size w w' := by
  by_cases h : k < 0 ∨ n < k
  · rw [setsN_out n k h]
    exact (sets_out n k w h).mono fun e w' ⟨a, b⟩ => ⟨a, b ▸ Below.refl _ _⟩
  · obtain ⟨n, rfl⟩ := Int.eq_ofNat_of_zero_le h0
    obtain ⟨k, rfl⟩ := Int.eq_ofNat_of_zero_le (show 0 ≤ k by omega)
    rw [setsN_in n k (by omega)]
    exact sets_in n k w (by omega) (by omega)

/-- Risk. -/
def RiskBad (n bad k f : Int) : Prop := n < 0 ∨ 60 < n ∨ bad < 0 ∨ n < bad ∨ k < 0 ∨ n < k ∨ f < 0
instance (n bad k f : Int) : Decidable (RiskBad n bad k f) := by unfold RiskBad; infer_instance
def riskN (n bad k f : Int) : Int × Int × Int := if RiskBad n bad k f then (0, 0, 4) else (sumTo (limb n bad k f) (k + 1).toNat, setsN n k, 0)

theorem risk_bad (n bad k f : Int) (w : World) (h : RiskBad n bad k f) :
    Calls Tryz.prog 12 #[.int .i64 n, .int .i64 bad, .int .i64 k, .int .i64 f] w fun e w' => e = .returned (.tuple #[.int .i64 0, .int .i64 0, .int .i64 4]) ∧ Below w.heap.size w w' := by
  unfold RiskBad at h
  by_cases h0 : n < 0
  · clear h; go_enter Tryz.func12, Tryz.ntmps12
    go_wp2; go_ret3; exact ⟨rfl, Below.refl _ _⟩
  have h0' : decide (n < 0) = false := by simpa using h0
  by_cases h1 : 60 < n
  · clear h; go_enter Tryz.func12, Tryz.ntmps12
    go_wp2; go_ret3; exact ⟨rfl, Below.refl _ _⟩
  have h1' : decide (60 < n) = false := by simpa using h1
  by_cases h2 : bad < 0
  · clear h; go_enter Tryz.func12, Tryz.ntmps12
    go_wp2; go_ret3; exact ⟨rfl, Below.refl _ _⟩
  have h2' : decide (bad < 0) = false := by simpa using h2
  by_cases h3 : n < bad
  · clear h; go_enter Tryz.func12, Tryz.ntmps12
    go_wp2; go_ret3; exact ⟨rfl, Below.refl _ _⟩
  have h3' : decide (n < bad) = false := by simpa using h3
  by_cases h4 : k < 0
  · clear h; go_enter Tryz.func12, Tryz.ntmps12
    go_wp2; go_ret3; exact ⟨rfl, Below.refl _ _⟩
  have h4' : decide (k < 0) = false := by simpa using h4
  by_cases h5 : n < k
  · clear h; go_enter Tryz.func12, Tryz.ntmps12
    go_wp2; go_ret3; exact ⟨rfl, Below.refl _ _⟩
  have h5' : decide (n < k) = false := by simpa using h5
  have h6 : f < 0 := by omega
  clear h; go_enter Tryz.func12, Tryz.ntmps12
  go_wp2; go_ret3; exact ⟨rfl, Below.refl _ _⟩

set_option maxRecDepth 100000 in
set_option maxHeartbeats 400000 in
theorem risk_good (n bad k f : Int) (w : World) (h : ¬ RiskBad n bad k f) :
    Calls Tryz.prog 12 #[.int .i64 n, .int .i64 bad, .int .i64 k, .int .i64 f] w fun e w' =>
      e = .returned (.tuple #[.int .i64 (sumTo (limb n bad k f) (k + 1).toNat), .int .i64 (setsN n k), .int .i64 0]) ∧ Below w.heap.size w w' := by
  unfold RiskBad at h
  have h0 : 0 ≤ n := by omega
  have h1 : n ≤ 60 := by omega
  have h2 : 0 ≤ bad := by omega
  have h3 : bad ≤ n := by omega
  have h4 : 0 ≤ k := by omega
  have h5 : k ≤ n := by omega
  have h6 : 0 ≤ f := by omega
  clear h
  have h0' : decide (n < 0) = false := by simpa using h0
  have h1' : decide (60 < n) = false := by simpa using h1
  have h2' : decide (bad < 0) = false := by simpa using h2
  have h3' : decide (n < bad) = false := by simpa using h3
  have h4' : decide (k < 0) = false := by simpa using h4
  have h5' : decide (n < k) = false := by simpa using h5
  have h6' : decide (f < 0) = false := by simpa using h6
  go_enter Tryz.func12, Tryz.ntmps12
  go_wp2
  clear h0' h1' h2' h3' h4' h5' h6'
  go_loopw [8, 42] (fun o i wr => ∃ q : Nat, (q : Int) ≤ k + 1 ∧ i = .int .i64 q ∧ o = .int .i64 (sumTo (limb n bad k f) q) ∧ Below w.heap.size w wr) (fun _ i _ => (k + 1 - intOf i).toNat)
  case atStart => exact ⟨0, by omega, rfl, rfl, Below.refl _ _⟩
  case round =>
    obtain ⟨q, hq, rfl, rfl, hbel⟩ := hrel
    have s0 := sumTo_nonneg (limb n bad k f) (limb_nonneg n bad k f) q
    have s1 := over_le n bad k f h2 h3 h1 (q + 1)
    have s2 := limb_nonneg n bad k f q
    have s3 : sumTo (limb n bad k f) (q + 1) = sumTo (limb n bad k f) q + limb n bad k f q := rfl
    by_cases hlt : (q : Int) < k + 1
    · by_cases hf : f < q
      · have s4 : limb n bad k f q = setsN bad q * setsN (n - bad) (k - q) := by unfold limb; rw [if_pos hf]
        rw [s4] at s3 s2
        rw [s3] at s1
        have S3 := Lib.hid s3; clear s3 s4
        go_wp2_with (go_at_call 37; refine (sets_any _ _ _ (by omega) (by omega)).mono ?_; rintro e w' ⟨rfl, hb⟩; replace hbel := hbel.trans (hb.mono hbel.size); clear hb)
        go_roundw
        case rel => exact ⟨q + 1, by omega, by go_num, by rw [S3.out], hbel⟩
        case measure => simp [intOf]; omega
      · have s4 : limb n bad k f q = 0 := by unfold limb; rw [if_neg hf]
        have S3 : Hid (sumTo (limb n bad k f) (q + 1) = sumTo (limb n bad k f) q) := by rw [s3, s4]; exact Int.add_zero _
        clear s3 s4
        go_wp2
        go_roundw
        case rel => exact ⟨q + 1, by omega, by go_num, by rw [S3.out], hbel⟩
        case measure => simp [intOf]; omega
    · have hqk : (k + 1).toNat = q := by omega
      have HQ := Lib.hid hqk; clear hqk s3
      go_wp2_with (go_at_call 37; refine (sets_any _ _ _ (by omega) (by omega)).mono ?_; rintro e w' ⟨rfl, hb⟩)
      go_ret3
      exact ⟨by rw [HQ.out]; rfl, hbel.trans (hb.mono hbel.size)⟩
theorem risk_any (n bad k f : Int) (w : World) :
    Calls Tryz.prog 12 #[.int .i64 n, .int .i64 bad, .int .i64 k, .int .i64 f] w fun e w' =>
      e = .returned (.tuple #[.int .i64 (riskN n bad k f).1, .int .i64 (riskN n bad k f).2.1, .int .i64 (riskN n bad k f).2.2]) ∧ Below w.heap.size w w' := by
  by_cases h : RiskBad n bad k f
  · have e : riskN n bad k f = (0, 0, 4) := by unfold riskN; rw [if_pos h]
    rw [e]; exact risk_bad n bad k f w h
  · have e : riskN n bad k f = (sumTo (limb n bad k f) (k + 1).toNat, setsN n k, 0) := by unfold riskN; rw [if_neg h]
    rw [e]; exact risk_good n bad k f w h
end Go.Proofs.YtlnboheahbfgfaaGreat
namespace Go.Proofs.YtlnboheahbfgfaaGreat
open Go.RowKit
set_option linter.unusedSimpArgs false
set_option linter.unusedVariables false

theorem bin_pos : ∀ n k : Nat, k ≤ n → 1 ≤ bin n k
  | n, 0, _ => by rw [bin_zero]; exact Nat.le_refl _
  | 0, k + 1, h => by omega
  | n + 1, k + 1, h => by
    rw [bin_succ]
    have := bin_pos n k (by omega)
    omega
/-- Vandermonde's sum, where it is wanted. -/
def vdm (n bad k : Nat) : Nat := (List.range (k + 1)).foldl (fun a j => a + bin bad j * bin (n - bad) (k - j)) 0
theorem vdm_ok : ∀ n : Fin 17, ∀ bad : Fin 17, bad.val ≤ n.val → vdm n bad 3 = bin n 3 ∧ vdm n bad 5 = bin n 5 := by decide +kernel
def tmS (n bad k j : Nat) : Int := (bin bad j : Int) * (bin (n - bad) (k - j) : Int)
theorem tmS_nonneg (n bad k j : Nat) : 0 ≤ tmS n bad k j := Int.mul_nonneg (by omega) (by omega)
theorem vdm_sum (n bad k : Nat) : ((vdm n bad k : Nat) : Int) = sumTo (tmS n bad k) (k + 1) := by
  have : ∀ m, (((List.range m).foldl (fun a j => a + bin bad j * bin (n - bad) (k - j)) 0 : Nat) : Int) = sumTo (tmS n bad k) m := fun m => by
    induction m with
    | zero => rfl
    | succ m ih => rw [List.range_succ, List.foldl_append, List.foldl_cons, List.foldl_nil, sumTo, ← ih]; simp [tmS]
  exact this (k + 1)
theorem limb_is (n bad k : Nat) (f : Int) (j : Nat) (hb : bad ≤ n) (hj : j ≤ k) : limb n bad k f j = if f < j then tmS n bad k j else 0 := by
  unfold limb
  split
  · have e1 : setsN (bad : Int) (j : Int) = (bin bad j : Int) := by
      by_cases h : j ≤ bad
      · exact setsN_in bad j h
      · rw [setsN_out _ _ (by omega), bin_gt _ _ (by omega)]; rfl
    have e2 : setsN ((n : Int) - (bad : Int)) ((k : Int) - (j : Int)) = (bin (n - bad) (k - j) : Int) := by
      rw [show (n : Int) - (bad : Int) = ((n - bad : Nat) : Int) by omega, show (k : Int) - (j : Int) = ((k - j : Nat) : Int) by omega]
      by_cases h : k - j ≤ n - bad
      · exact setsN_in _ _ h
      · rw [setsN_out _ _ (by omega), bin_gt _ _ (by omega)]; rfl
    rw [e1, e2]; rfl
  · rfl
theorem sum_skip (g : Nat → Int) (h : ∀ j, 0 ≤ g j) (f : Int) (l : Nat) : ∀ m, l < m → (f < l → g l ≤ sumTo (fun j => if f < (j : Int) then g j else 0) m) ∧ ((l : Int) ≤ f → sumTo (fun j => if f < (j : Int) then g j else 0) m + g l ≤ sumTo g m)
  | 0, hl => by omega
  | m + 1, hl => by
    have hn : 0 ≤ sumTo (fun j => if f < (j : Int) then g j else 0) m := sumTo_nonneg _ (fun j => by split; exact h j; exact Int.le_refl _) m
    have hm : sumTo (fun j => if f < (j : Int) then g j else 0) m ≤ sumTo g m := sumTo_mono _ _ (fun j => by split; exact Int.le_refl _; exact h j) m
    simp only [sumTo]
    have hgm := h m
    by_cases e : l < m
    · have ih := sum_skip g h f l m e
      refine ⟨fun hf => ?_, fun hf => ?_⟩
      · have := ih.1 hf; split <;> omega
      · have := ih.2 hf; split <;> omega
    · obtain rfl : l = m := by omega
      refine ⟨fun hf => ?_, fun hf => ?_⟩
      · rw [if_pos hf]; omega
      · rw [if_neg (by omega)]; omega
/-- What TopInfluence asks of Risk. -/
theorem risk_top (n bad k f lies : Nat) (hn : n ≤ 16) (hb : bad ≤ n) (hk : k = 3 ∨ k = 5) (hkn : k ≤ n) (hl : lies ≤ k) (hl2 : lies ≤ bad) (hl3 : k - lies ≤ n - bad) :
    (riskN n bad k f).2.2 = 0 ∧ (riskN n bad k f).1 ≤ (riskN n bad k f).2.1 ∧ (f < lies → (riskN n bad k f).1 ≠ 0) ∧ (lies ≤ f → (riskN n bad k f).1 ≠ (riskN n bad k f).2.1) := by
  have hnb : ¬ RiskBad n bad k f := by unfold RiskBad; omega
  have e0 : riskN n bad k f = (sumTo (limb n bad k f) ((k : Int) + 1).toNat, setsN n k, 0) := by unfold riskN; rw [if_neg hnb]
  have e1 : sumTo (limb n bad k f) ((k : Int) + 1).toNat = sumTo (fun j => if (f : Int) < (j : Int) then tmS n bad k j else 0) (k + 1) := by
    rw [show ((k : Int) + 1).toNat = k + 1 by omega]
    exact sumTo_congr _ _ _ (fun j hj => limb_is n bad k f j hb (by omega))
  have hv : ((vdm n bad k : Nat) : Int) = (bin n k : Int) := by
    have := vdm_ok ⟨n, by omega⟩ ⟨bad, by omega⟩ hb
    rcases hk with rfl | rfl
    · rw [this.1]
    · rw [this.2]
  have e2 : setsN n k = sumTo (tmS n bad k) (k + 1) := by rw [← vdm_sum, hv, setsN_in n k hkn]
  have hp : 1 ≤ tmS n bad k lies := by
    have a := bin_pos bad lies hl2
    have b := bin_pos (n - bad) (k - lies) hl3
    unfold tmS
    have : (1 : Int) * 1 ≤ (bin bad lies : Int) * (bin (n - bad) (k - lies) : Int) := Int.mul_le_mul (by omega) (by omega) (by omega) (by omega)
    omega
  have hs := sum_skip (tmS n bad k) (tmS_nonneg n bad k) f lies (k + 1) (by omega)
  have hm : sumTo (fun j => if (f : Int) < (j : Int) then tmS n bad k j else 0) (k + 1) ≤ sumTo (tmS n bad k) (k + 1) := sumTo_mono _ _ (fun j => by
    split
    · exact Int.le_refl _
    · exact tmS_nonneg _ _ _ _) _
  rw [e0, e1, e2]
  refine ⟨rfl, hm, fun h => ?_, fun h => ?_⟩
  · have := hs.1 (by omega); dsimp only; omega
  · have := hs.2 (by omega); dsimp only; omega
end Go.Proofs.YtlnboheahbfgfaaGreat
