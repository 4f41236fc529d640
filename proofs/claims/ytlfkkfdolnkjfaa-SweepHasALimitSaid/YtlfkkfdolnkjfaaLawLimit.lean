/- The walk of SweepHasALimit. -/
import Derived.Test.YtlfkkfdolnkjfaaLaw34
namespace Go.Proofs.Ytlfkkfdolnkjfaa
open Go.RowKit Go.Shelf Go.Sort
set_option linter.unusedSimpArgs false
set_option linter.unusedVariables false

def zerosS (m : Nat) : List (Int × Int) := List.replicate m (0, 0)
theorem zerosS_length (m : Nat) : (zerosS m).length = m := by simp [zerosS]
theorem zerosS_bad (m : Nat) : badS (zerosS m) = false := bad_of (fun z hz => by rw [(List.mem_replicate.1 hz).2]; decide)
theorem zerosS_cnt (m : Nat) : cntS (zerosS m) 0 = m := by
  induction m with
  | zero => rfl
  | succ m ih =>
    rw [show zerosS (m + 1) = (0, 0) :: zerosS m from rfl, cntS_cons, ih, show inS 0 (0, 0) = true from by decide, if_pos rfl]
    omega
theorem zeros_cells (m : Nat) : (madeCells #[(.int .i64 0 : Value), .int .i64 0] (m * 2)).toList = cellsS (zerosS m) := by
  have h1 : (madeCells #[(.int .i64 0 : Value), .int .i64 0] (m * 2)).toList = List.replicate (m * 2) (.int .i64 0) := by
    refine List.ext_getElem (by simp [madeCells]) (fun i h1 h2 => ?_)
    have hi : i < m * 2 := by simpa [madeCells] using h1
    rw [List.getElem_replicate]
    simp only [madeCells, Array.toList_map, List.getElem_map, Array.getElem_toList, Array.getElem_range]
    have : i % 2 = 0 ∨ i % 2 = 1 := by omega
    rcases this with e | e <;> simp [e]
  rw [h1]
  clear h1
  induction m with
  | zero => rfl
  | succ m ih =>
    rw [show zerosS (m + 1) = (0, 0) :: zerosS m from rfl, show cellsS ((0, 0) :: zerosS m) = .int .i64 0 :: .int .i64 0 :: cellsS (zerosS m) from by simp [cellsS], ← ih, show (m + 1) * 2 = m * 2 + 1 + 1 by omega]
    rfl
theorem px_empty {zs : List (Int × Int)} {ps : List Pc} (h : PX zs ps) (hc : ckE zs = 0) (t : Int) (ht : zs = [] ∨ 1 ≤ cntS zs t) : (zs.length = 0) ↔ (ps.length = 0) := by
  rcases h with ⟨h, -⟩ | ⟨-, h1, h2, h9⟩
  · exact absurd hc h
  · rcases ht with rfl | ht
    · have : PX [] [] := .inr ⟨by decide, PCan.nil, fun t => rfl, by simp⟩
      have := PX_uniq this (.inr ⟨by decide, h1, h2, h9⟩)
      rw [← this]; simp
    · constructor
      · intro hl
        obtain rfl : zs = [] := List.length_eq_zero_iff.1 hl
        have : cntS [] t = 0 := rfl
        omega
      · intro hl
        obtain rfl : ps = [] := List.length_eq_zero_iff.1 hl
        have := h2 t
        rw [show cntP [] t = 0 from rfl] at this
        omega
set_option maxRecDepth 100000 in
set_option maxHeartbeats 4000000 in
theorem limit_walk (n : Int) (h0 : 0 ≤ n) (h1 : n < 256) (w : World) :
    Calls Try.prog 9 #[.int .u8 n] w (RB w (.bool true)) := by
  obtain ⟨m, hm⟩ : ∃ m : Nat, n % 74 = (m : Int) := ⟨(n % 74).toNat, by omega⟩
  have hm74 : m < 74 := by omega
  have wn : IntKind.i64.wrap n = n := IntWalk.i64_in _ (by omega)
  have wt : n.tmod 74 = (m : Int) := by rw [Int.tmod_eq_emod_of_nonneg h0]; exact hm
  have wm : IntKind.i64.wrap (n.tmod 74) = (m : Int) := by rw [wt]; exact IntWalk.i64_in _ (by omega)
  have wm2 : IntKind.i64.wrap (m : Int) = (m : Int) := IntWalk.i64_in _ (by omega)
  have HM := Lib.hid hm; clear hm
  obtain ⟨i0, hif, hz0, hz1, hz2⟩ := info_parts infoSpan
  go_enter Try.func9, Try.ntmps9
  go_wp2_with (at_make; refine wpList_make_full _ rfl _ _ 43 rfl w.heap.size 35 i0 (.agg #[.int .i64 0, .int .i64 0]) 2 Try.underlying43 hif hz0 hz1 .i64 .i64 _ _ m rfl rfl (by first | rfl | exact wt | exact wm | omega) (by first | rfl | exact wt | exact wm | omega) (by rw [hz2]; omega) (by unfold maxLen; omega) (Nat.le_refl _) ?_)
  intro w1 hown hgrow
  have K1 : Below w.heap.size w w1 := (Below.refl _ _).grown hgrow (Nat.le_refl _) (fun k hk => by cases hk)
  have hr : RowS w1 w.heap.size (.slice (some ⟨w.heap.size, 0, none⟩) (zerosS m).length m) (zerosS m) := by
    unfold RowS
    rw [zerosS_length, ← zeros_cells]
    exact hown
  have hs := spans_of_row hr (by rw [zerosS_length]; omega)
  rw [zerosS_length] at hs
  have Z1 := K1.size
  have HC := Lib.hid (fun W (hW : Below w1.heap.size w1 W) => scount_any (some ⟨w.heap.size, 0, none⟩) m m (zerosS m) 0 W (hs.below hW))
  have HP := Lib.hid (fun W (hW : Below w1.heap.size w1 W) => sprofile_any (some ⟨w.heap.size, 0, none⟩) m m (zerosS m) W (hs.below hW))
  have HL := Lib.hid (fun W (hW : Below w1.heap.size w1 W) => sLeast_any (some ⟨w.heap.size, 0, none⟩) m m (zerosS m) 1 W (hs.below hW))
  have HM5 := Lib.hid (fun W (hW : Below w1.heap.size w1 W) => smost_any (some ⟨w.heap.size, 0, none⟩) m m (zerosS m) W (hs.below hW))
  have HK := Lib.hid (fun W => known34_any W)
  have HK1 := Lib.hid K1
  clear hown hgrow hr hs K1
  by_cases hc : 64 < m
  · have hck : ckE (zerosS m) = 8 := ckE_8 (by rw [zerosS_length]; exact hc)
    have hct : ctV (zerosS m) 0 = 0 := if_neg (by rw [hck]; decide)
    have hle : lE (zerosS m) 1 = 8 := by rw [lE_bad (by rw [hck]; decide), hck]
    have HCK := Lib.hid hck; have HCT := Lib.hid hct; have HLE := Lib.hid hle; clear hck hct hle
    have g0 : decide (64 < (m : Int)) = true := decide_eq_true (by omega)
    have g0n : decide (64 < m) = true := decide_eq_true hc
    go_wp2_with fail
    refine (HC.out _ (by (repeat' (first | (with_reducible exact Below.refl _ _) | (with_reducible refine Below.setCell ?_ ?_ _) | (with_reducible refine Below.alloc ?_ ?_ _) | (with_reducible refine Below.drew ?_) | (with_reducible refine below_drewN ?_ _))) <;> (first | omega | (simp <;> omega)))).mono ?_
    rintro e w2 ⟨rfl, hb2⟩
    have K2 : Below w1.heap.size w1 w2 := kept_call hb2 (by (repeat' (first | (with_reducible exact Below.refl _ _) | (with_reducible refine Below.setCell ?_ ?_ _) | (with_reducible refine Below.alloc ?_ ?_ _) | (with_reducible refine Below.drew ?_) | (with_reducible refine below_drewN ?_ _))) <;> (first | omega | (simp <;> omega)))
    have Z2 := K2.size
    clear hb2
    rw [HCT.out, HCK.out]
    go_wp2_with fail
    refine (HP.out _ (by (repeat' (first | (with_reducible exact K2) | (with_reducible refine Below.setCell ?_ ?_ _) | (with_reducible refine Below.alloc ?_ ?_ _) | (with_reducible refine Below.drew ?_) | (with_reducible refine below_drewN ?_ _))) <;> (first | omega | (simp <;> omega)))).mono ?_
    rintro e w3 ⟨A3, c3, ps, rfl, hpp, hpx, hb3⟩
    have K3 : Below w1.heap.size w1 w3 := kept_call hb3 (by (repeat' (first | (with_reducible exact K2) | (with_reducible refine Below.setCell ?_ ?_ _) | (with_reducible refine Below.alloc ?_ ?_ _) | (with_reducible refine Below.drew ?_) | (with_reducible refine below_drewN ?_ _))) <;> (first | omega | (simp <;> omega)))
    have Z3 := K3.size
    skip
    clear hb3 hpp hpx K2
    rw [HCK.out]
    go_wp2_with fail
    refine (HL.out _ (by (repeat' (first | (with_reducible exact K3) | (with_reducible refine Below.setCell ?_ ?_ _) | (with_reducible refine Below.alloc ?_ ?_ _) | (with_reducible refine Below.drew ?_) | (with_reducible refine below_drewN ?_ _))) <;> (first | omega | (simp <;> omega)))).mono ?_
    rintro e w4 ⟨A4, c4, us, rfl, hsp, hlx, hb4⟩
    have K4 : Below w1.heap.size w1 w4 := kept_call hb4 (by (repeat' (first | (with_reducible exact K3) | (with_reducible refine Below.setCell ?_ ?_ _) | (with_reducible refine Below.alloc ?_ ?_ _) | (with_reducible refine Below.drew ?_) | (with_reducible refine below_drewN ?_ _))) <;> (first | omega | (simp <;> omega)))
    have Z4 := K4.size
    clear hb4 hsp hlx K3
    rw [HLE.out]
    go_wp2_with fail
    refine (HM5.out _ (by (repeat' (first | (with_reducible exact K4) | (with_reducible refine Below.setCell ?_ ?_ _) | (with_reducible refine Below.alloc ?_ ?_ _) | (with_reducible refine Below.drew ?_) | (with_reducible refine below_drewN ?_ _))) <;> (first | omega | (simp <;> omega)))).mono ?_
    rintro e w5 ⟨mm, A5, c5, vs, rfl, hsp, hlx, hb5⟩
    have K5 : Below w1.heap.size w1 w5 := kept_call hb5 (by (repeat' (first | (with_reducible exact K4) | (with_reducible refine Below.setCell ?_ ?_ _) | (with_reducible refine Below.alloc ?_ ?_ _) | (with_reducible refine Below.drew ?_) | (with_reducible refine below_drewN ?_ _))) <;> (first | omega | (simp <;> omega)))
    have Z5 := K5.size
    clear hb5 hsp hlx K4
    rw [HCK.out]
    go_wp2_with fail
    refine (HK.out _).mono ?_
    rintro e w6 ⟨rfl, hb6⟩
    have K6 : Below w1.heap.size w1 w6 := kept_call hb6 (by (repeat' (first | (with_reducible exact K5) | (with_reducible refine Below.setCell ?_ ?_ _) | (with_reducible refine Below.alloc ?_ ?_ _) | (with_reducible refine Below.drew ?_) | (with_reducible refine below_drewN ?_ _))) <;> (first | omega | (simp <;> omega)))
    clear hb6 K5
    go_wp2
    go_ret
    exact ⟨rfl, kept_call (by (repeat' (first | (with_reducible exact K6) | (with_reducible refine Below.setCell ?_ ?_ _) | (with_reducible refine Below.alloc ?_ ?_ _) | (with_reducible refine Below.drew ?_) | (with_reducible refine below_drewN ?_ _))) <;> (first | omega | (simp <;> omega))) HK1.out⟩
  · have hck : ckE (zerosS m) = 0 := ckE_0 (by rw [zerosS_length]; exact hc) (zerosS_bad m)
    have hct : ctV (zerosS m) 0 = m := by unfold ctV; rw [if_pos hck]; exact zerosS_cnt m
    have hle : lE (zerosS m) 1 = 0 := lE_ok hck (by decide)
    have HCK := Lib.hid hck; have HCT := Lib.hid hct; have HLE := Lib.hid hle; clear hck hct hle
    have g0 : decide (64 < (m : Int)) = false := decide_eq_false (by omega)
    have g0n : decide (64 < m) = false := decide_eq_false hc
    go_wp2_with fail
    refine (HC.out _ (by (repeat' (first | (with_reducible exact Below.refl _ _) | (with_reducible refine Below.setCell ?_ ?_ _) | (with_reducible refine Below.alloc ?_ ?_ _) | (with_reducible refine Below.drew ?_) | (with_reducible refine below_drewN ?_ _))) <;> (first | omega | (simp <;> omega)))).mono ?_
    rintro e w2 ⟨rfl, hb2⟩
    have K2 : Below w1.heap.size w1 w2 := kept_call hb2 (by (repeat' (first | (with_reducible exact Below.refl _ _) | (with_reducible refine Below.setCell ?_ ?_ _) | (with_reducible refine Below.alloc ?_ ?_ _) | (with_reducible refine Below.drew ?_) | (with_reducible refine below_drewN ?_ _))) <;> (first | omega | (simp <;> omega)))
    have Z2 := K2.size
    clear hb2
    rw [HCT.out, HCK.out]
    go_wp2_with fail
    refine (HP.out _ (by (repeat' (first | (with_reducible exact K2) | (with_reducible refine Below.setCell ?_ ?_ _) | (with_reducible refine Below.alloc ?_ ?_ _) | (with_reducible refine Below.drew ?_) | (with_reducible refine below_drewN ?_ _))) <;> (first | omega | (simp <;> omega)))).mono ?_
    rintro e w3 ⟨A3, c3, ps, rfl, hpp, hpx, hb3⟩
    have K3 : Below w1.heap.size w1 w3 := kept_call hb3 (by (repeat' (first | (with_reducible exact K2) | (with_reducible refine Below.setCell ?_ ?_ _) | (with_reducible refine Below.alloc ?_ ?_ _) | (with_reducible refine Below.drew ?_) | (with_reducible refine below_drewN ?_ _))) <;> (first | omega | (simp <;> omega)))
    have Z3 := K3.size
    have hpe := px_empty hpx HCK.out 0 (by by_cases e : m = 0; (left; rw [e]; rfl); (right; rw [zerosS_cnt]; omega))
    rw [zerosS_length] at hpe
    clear hb3 hpp hpx K2
    rw [HCK.out]
    go_wp2_with fail
    refine (HL.out _ (by (repeat' (first | (with_reducible exact K3) | (with_reducible refine Below.setCell ?_ ?_ _) | (with_reducible refine Below.alloc ?_ ?_ _) | (with_reducible refine Below.drew ?_) | (with_reducible refine below_drewN ?_ _))) <;> (first | omega | (simp <;> omega)))).mono ?_
    rintro e w4 ⟨A4, c4, us, rfl, hsp, hlx, hb4⟩
    have K4 : Below w1.heap.size w1 w4 := kept_call hb4 (by (repeat' (first | (with_reducible exact K3) | (with_reducible refine Below.setCell ?_ ?_ _) | (with_reducible refine Below.alloc ?_ ?_ _) | (with_reducible refine Below.drew ?_) | (with_reducible refine below_drewN ?_ _))) <;> (first | omega | (simp <;> omega)))
    have Z4 := K4.size
    clear hb4 hsp hlx K3
    rw [HLE.out]
    go_wp2_with fail
    refine (HM5.out _ (by (repeat' (first | (with_reducible exact K4) | (with_reducible refine Below.setCell ?_ ?_ _) | (with_reducible refine Below.alloc ?_ ?_ _) | (with_reducible refine Below.drew ?_) | (with_reducible refine below_drewN ?_ _))) <;> (first | omega | (simp <;> omega)))).mono ?_
    rintro e w5 ⟨mm, A5, c5, vs, rfl, hsp, hlx, hb5⟩
    have K5 : Below w1.heap.size w1 w5 := kept_call hb5 (by (repeat' (first | (with_reducible exact K4) | (with_reducible refine Below.setCell ?_ ?_ _) | (with_reducible refine Below.alloc ?_ ?_ _) | (with_reducible refine Below.drew ?_) | (with_reducible refine below_drewN ?_ _))) <;> (first | omega | (simp <;> omega)))
    have Z5 := K5.size
    clear hb5 hsp hlx K4
    rw [HCK.out]
    go_wp2_with fail
    refine (HK.out _).mono ?_
    rintro e w6 ⟨rfl, hb6⟩
    have K6 : Below w1.heap.size w1 w6 := kept_call hb6 (by (repeat' (first | (with_reducible exact K5) | (with_reducible refine Below.setCell ?_ ?_ _) | (with_reducible refine Below.alloc ?_ ?_ _) | (with_reducible refine Below.drew ?_) | (with_reducible refine below_drewN ?_ _))) <;> (first | omega | (simp <;> omega)))
    clear hb6 K5
    by_cases em : m = 0
    · have ep : ps.length = 0 := hpe.1 em
      have q1 : decide ((m : Int) = 0) = true := decide_eq_true (by omega)
      have q1b : ((m : Int) == 0) = true := by rw [beq_iff_eq]; omega
      have q2 : decide ((ps.length : Int) = 0) = true := decide_eq_true (by omega)
      have q2b : ((ps.length : Int) == 0) = true := by rw [beq_iff_eq]; omega
      clear em ep hpe
      go_wp2
      go_ret
      exact ⟨rfl, kept_call (by (repeat' (first | (with_reducible exact K6) | (with_reducible refine Below.setCell ?_ ?_ _) | (with_reducible refine Below.alloc ?_ ?_ _) | (with_reducible refine Below.drew ?_) | (with_reducible refine below_drewN ?_ _))) <;> (first | omega | (simp <;> omega))) HK1.out⟩
    · have ep : ¬ ps.length = 0 := fun h => em (hpe.2 h)
      have q1 : decide ((m : Int) = 0) = false := decide_eq_false (by omega)
      have q1b : ((m : Int) == 0) = false := by rw [beq_eq_false_iff_ne]; omega
      have q2 : decide ((ps.length : Int) = 0) = false := decide_eq_false (by omega)
      have q2b : ((ps.length : Int) == 0) = false := by rw [beq_eq_false_iff_ne]; omega
      clear em ep hpe
      go_wp2
      go_ret
      exact ⟨rfl, kept_call (by (repeat' (first | (with_reducible exact K6) | (with_reducible refine Below.setCell ?_ ?_ _) | (with_reducible refine Below.alloc ?_ ?_ _) | (with_reducible refine Below.drew ?_) | (with_reducible refine below_drewN ?_ _))) <;> (first | omega | (simp <;> omega))) HK1.out⟩
end Go.Proofs.Ytlfkkfdolnkjfaa
