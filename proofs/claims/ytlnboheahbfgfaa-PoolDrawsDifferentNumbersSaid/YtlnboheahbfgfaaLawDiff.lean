/- The walk of PoolDrawsDifferentNumbers. -/
import Derived.Test.YtlnboheahbfgfaaDrawY
import Derived.Test.YtlnboheahbfgfaaPoolQ
namespace Go.Proofs.Ytlnboheahbfgfaa
open Go.RowKit
set_option linter.unusedSimpArgs false
set_option linter.unusedVariables false

theorem NsAt.take {w : World} {A : Option Addr} {zs : List Int} (h : NsAt w A zs) (k : Nat) (hk : k ≤ zs.length) : NsAt w A (zs.take k) := fun h0 => by
  rw [List.length_take] at h0
  obtain ⟨g, off, e, hg, hc⟩ := h (by omega)
  refine ⟨g, off, e, hg, fun j hj => ?_⟩
  rw [List.length_take] at hj
  rw [take_getD _ _ _ (by omega)]; exact hc j (by omega)
set_option maxRecDepth 100000 in
set_option maxHeartbeats 4000000 in
theorem diff_walk (v n k : Int) (w : World) :
    Calls Try.prog 4 #[.int .i64 v, .int .i64 n, .int .i64 k] w (RB w (.bool true)) := by
  have HK := Lib.hid (show Kp w w from Below.refl _ _)
  obtain ⟨m, hm⟩ : ∃ m : Nat, 1 + n % 300 = (m : Int) := ⟨(1 + n % 300).toNat, by omega⟩
  have m1 : 1 ≤ m := by omega
  have m2 : m ≤ 300 := by omega
  have wm : IntKind.i64.wrap (1 + n % 300) = (m : Int) := by rw [IntWalk.i64_in _ (by omega)]; exact hm
  obtain ⟨u, hu⟩ : ∃ u : Nat, min (m : Int) 32 = (u : Int) := ⟨min m 32, by omega⟩
  have u1 : u ≤ m := by omega
  have u2 : u ≤ 32 := by omega
  have wu : IntKind.i64.wrap ((u : Int) + 1) = (u : Int) + 1 := IntWalk.i64_in _ (by omega)
  obtain ⟨l, hl⟩ : ∃ l : Nat, k % ((u : Int) + 1) = (l : Int) := ⟨(k % ((u : Int) + 1)).toNat, by have := Int.emod_nonneg k (show (u : Int) + 1 ≠ 0 by omega); omega⟩
  have l0 : l ≤ u := by have := Int.emod_lt_of_pos k (show (0 : Int) < (u : Int) + 1 by omega); omega
  have hsl : (randS v).length = 32 := shaS_len _
  have hE := drE_ok hsl m1 (show m ≤ 4096 by omega) (show l ≤ m by omega) (show l ≤ 32 by omega)
  have hE2 := drE_ok hsl m1 (show m ≤ 4096 by omega) (show l / 2 ≤ m by omega) (show l / 2 ≤ 32 by omega)
  have hdll := drL_len hsl m1 (show m ≤ 4096 by omega) (show l ≤ m by omega) (show l ≤ 32 by omega)
  have hrng := drL_rng hsl m1 (show m ≤ 4096 by omega) (show l ≤ m by omega) (show l ≤ 32 by omega)
  have hinj := drL_inj hsl m1 (show m ≤ 4096 by omega) (show l ≤ m by omega) (show l ≤ 32 by omega)
  have hpre := drL_pre hsl m1 (show m ≤ 4096 by omega) (show l ≤ m by omega) (show l ≤ 32 by omega) (l / 2) (by omega)
  obtain ⟨dl, hdl⟩ : ∃ dl, drL (randS v) m l = dl := ⟨_, rfl⟩
  obtain ⟨d2, hd2⟩ : ∃ d2, drL (randS v) m (l / 2 : Nat) = d2 := ⟨_, rfl⟩
  have RD := Lib.hid (fun (g1 c1 : Nat) W h => hE ▸ hdl ▸ odraw_any (some ⟨g1, 0, none⟩) 32 c1 (randS v) m l (by omega) (by omega) W h)
  have RD2 := Lib.hid (fun (g1 c1 : Nat) W h => hE2 ▸ hd2 ▸ odraw_any (some ⟨g1, 0, none⟩) 32 c1 (randS v) m (l / 2 : Nat) (by omega) (by omega) W h)
  rw [hdl] at hdll hrng hinj hpre
  rw [hd2] at hpre
  obtain ⟨hh, hhh⟩ : ∃ hh : Nat, l / 2 = hh := ⟨_, rfl⟩
  have th : Int.tdiv (l : Int) 2 = (hh : Int) := by rw [Int.tdiv_eq_ediv_of_nonneg (by omega)]; omega
  have hhl : hh ≤ l := by omega
  rw [hhh] at RD2 hpre
  have hd2l : d2.length = hh := by rw [hpre, List.length_take]; omega
  clear hE hE2 hdl hd2 hhh hsl
  have HRNG := Lib.hid hrng; have HINJ := Lib.hid hinj; have HPRE := Lib.hid hpre; have HDLL := Lib.hid hdll; have HD2L := Lib.hid hd2l; have HM := Lib.hid hm; have HLL := Lib.hid hl
  clear hrng hinj hpre hdll hd2l
  go_enter Try.func4, Try.ntmps4
  go_wp2_with fail
  refine (random_any v _).mono ?_
  rintro e w1 ⟨g1, c1, rfl, hc1, hg1, hl1, hat1, hb1⟩
  have S1 : Below w.heap.size w w1 := kept_call hb1 (by (repeat' (first | (with_reducible exact Below.refl _ _) | (with_reducible refine Below.setCell ?_ ?_ _) | (with_reducible refine Below.alloc ?_ ?_ _) | (with_reducible refine Below.drew ?_) | (with_reducible refine below_drewN ?_ _))) <;> (first | omega | (simp <;> omega)))
  have Z1 := S1.size
  have HSD := Lib.hid (rand_bys hat1)
  replace HK := Lib.hid (HK.out.below S1)
  clear hb1 S1
  clear hat1
  go_wp2_with fail
  refine (within_any n 300 _ (by omega) (by omega)).mono ?_
  rintro e w2 ⟨rfl, rfl⟩
  go_wp2_with fail
  refine (within_any k ((u : Int) + 1) _ (by omega) (by omega)).mono ?_
  rintro e w2 ⟨rfl, rfl⟩
  rw [HLL.out]
  go_wp2_with fail
  refine (RD.out g1 c1 _ (HSD.out.below (by (repeat' (first | (with_reducible exact Below.refl _ _) | (with_reducible refine Below.setCell ?_ ?_ _) | (with_reducible refine Below.alloc ?_ ?_ _) | (with_reducible refine Below.drew ?_) | (with_reducible refine below_drewN ?_ _))) <;> (first | omega | (simp <;> omega))))).mono ?_
  rintro e w2 ⟨A1, c2, rfl, hcl, hA1, hn1, hb2⟩
  have S2 : Below w1.heap.size w1 w2 := kept_call hb2 (by (repeat' (first | (with_reducible exact Below.refl _ _) | (with_reducible refine Below.setCell ?_ ?_ _) | (with_reducible refine Below.alloc ?_ ?_ _) | (with_reducible refine Below.drew ?_) | (with_reducible refine below_drewN ?_ _))) <;> (first | omega | (simp <;> omega)))
  have Z2 := S2.size
  have HN := Lib.hid (hn1)
  replace HK := Lib.hid (HK.out.below S2)
  replace HSD := Lib.hid (HSD.out.below S2)
  clear hb2 S2
  clear hn1
  rw [HDLL.out]
  rw [HDLL.out] at hcl
  clear hm hl hu wm wu
  go_wp2
  obtain ⟨w5, rfl⟩ : ∃ x : World, x = w2 := ⟨_, rfl⟩
  go_loopg [10] l (fun G i wr => SameRel w5 l i G wr)
  case atStart => exact ⟨0, by omega, by omega, rfl, Below.refl _ _⟩
  case round =>
    obtain ⟨q, hq, rfl, rfl, KR⟩ := hrel
    have ZR := KR.size
    have HKR := Lib.hid (show Kp w5 wr from KR)
    replace HK := Lib.hid (HK.out.below KR)
    replace HSD := Lib.hid (HSD.out.below KR)
    replace HN := Lib.hid (HN.out.below KR)
    clear KR
    by_cases hlt : q < l
    · have gq : decide ((q : Int) < (l : Int)) = true := decide_eq_true (by omega)
      have gqn : decide (q < l) = true := decide_eq_true hlt
      have wq : IntKind.i64.wrap ((q : Int) + 1) = ((q + 1 : Nat) : Int) := by rw [IntWalk.i64_in _ (by omega)]; omega
      obtain ⟨ga, oa, rfl, hga, hca⟩ := HN.out (by rw [HDLL.out]; omega)
      have e0 := hca q (by rw [HDLL.out]; omega)
      clear hca
      obtain ⟨x0, x1⟩ := HRNG.out q hlt
      obtain ⟨x, hx⟩ : ∃ x, dl.getD q 0 = x := ⟨_, rfl⟩
      rw [hx] at e0 x0 x1
      have g0 : decide (x < 0) = false := decide_eq_false (by omega)
      have g1' : decide ((m : Int) ≤ x) = false := decide_eq_false (by omega)
      have HX := Lib.hid hx; clear hx
      go_wp2
      obtain ⟨w6, rfl⟩ : ∃ x : World, x = wr := ⟨_, rfl⟩
      go_loopg [11] q (fun G i wr => SameRel w6 q i G wr)
      case atStart => exact ⟨0, by omega, by omega, rfl, Below.refl _ _⟩
      case round =>
        obtain ⟨p, hp, rfl, rfl, KP⟩ := hrel
        have ZP := KP.size
        have e0 := cell_below KP e0
        have hga := Nat.lt_of_lt_of_le hga ZP
        replace HK := Lib.hid (HK.out.below KP)
        replace HSD := Lib.hid (HSD.out.below KP)
        replace HN := Lib.hid (HN.out.below KP)
        replace HKR := Lib.hid (HKR.out.below KP)
        by_cases hlp : p < q
        · have gp : decide ((p : Int) < (q : Int)) = true := decide_eq_true (by omega)
          have gpn : decide (p < q) = true := decide_eq_true hlp
          have wp : IntKind.i64.wrap ((p : Int) + 1) = ((p + 1 : Nat) : Int) := by rw [IntWalk.i64_in _ (by omega)]; omega
          have gpl : decide ((p : Int) < (l : Int)) = true := decide_eq_true (by omega)
          obtain ⟨gb, ob, eb, -, hcb⟩ := HN.out (by rw [HDLL.out]; omega)
          injection eb with eb; injection eb with eb1 eb2 _
          subst eb1 eb2
          have e1 := hcb p (by rw [HDLL.out]; omega)
          clear hcb
          have hxy : x ≠ dl.getD p 0 := fun e => by have := HINJ.out q p hlt (by omega) (by rw [HX.out]; exact e); omega
          generalize dl.getD p 0 = y at *
          have gxy : decide (x = y) = false := decide_eq_false hxy
          have gxyb : (x == y) = false := by rw [beq_eq_false_iff_ne]; exact hxy
          have HKP := Lib.hid KP; clear KP
          go_wp2_with fail
          go_quiet (fail)
          go_wp2
          go_roundg (q - (p + 1))
          case measure => omega
          case rel => exact ⟨p + 1, by omega, by omega, by go_num, (by (repeat' (first | (with_reducible exact HKP.out) | (with_reducible refine Below.setCell ?_ ?_ _) | (with_reducible refine Below.alloc ?_ ?_ _) | (with_reducible refine Below.drew ?_) | (with_reducible refine below_drewN ?_ _))) <;> (first | omega | (simp <;> omega)))⟩
        · obtain rfl : p = q := by omega
          have gp : decide ((p : Int) < (p : Int)) = false := decide_eq_false (by omega)
          clear KP
          go_wp2
          go_roundg (l - (p + 1))
          case measure => omega
          case rel => exact ⟨p + 1, by omega, by omega, by go_num, HKR.out.b⟩
    · obtain rfl : q = l := by omega
      have gq : decide ((q : Int) < (q : Int)) = false := decide_eq_false (by omega)
      clear HKR HRNG HINJ
      go_wp2_with fail
      refine (RD2.out g1 c1 _ (HSD.out.below (by (repeat' (first | (with_reducible exact Below.refl _ _) | (with_reducible refine Below.setCell ?_ ?_ _) | (with_reducible refine Below.alloc ?_ ?_ _) | (with_reducible refine Below.drew ?_) | (with_reducible refine below_drewN ?_ _))) <;> (first | omega | (simp <;> omega))))).mono ?_
      rintro e w21 ⟨A2, c3, rfl, hc3, -, hn2, hb21⟩
      have S21 : Below wr.heap.size wr w21 := kept_call hb21 (by (repeat' (first | (with_reducible exact Below.refl _ _) | (with_reducible refine Below.setCell ?_ ?_ _) | (with_reducible refine Below.alloc ?_ ?_ _) | (with_reducible refine Below.drew ?_) | (with_reducible refine below_drewN ?_ _))) <;> (first | omega | (simp <;> omega)))
      have Z21 := S21.size
      have HN2 := Lib.hid (hn2)
      replace HK := Lib.hid (HK.out.below S21)
      replace HSD := Lib.hid (HSD.out.below S21)
      replace HN := Lib.hid (HN.out.below S21)
      clear hb21 S21
      clear hn2
      rw [HD2L.out]
      go_wp2_with fail
      refine (known36_any _).mono ?_
      rintro e w22 ⟨rfl, hb22⟩
      have S22 : Below w21.heap.size w21 w22 := kept_call hb22 (by (repeat' (first | (with_reducible exact Below.refl _ _) | (with_reducible refine Below.setCell ?_ ?_ _) | (with_reducible refine Below.alloc ?_ ?_ _) | (with_reducible refine Below.drew ?_) | (with_reducible refine below_drewN ?_ _))) <;> (first | omega | (simp <;> omega)))
      have Z22 := S22.size
      replace HK := Lib.hid (HK.out.below S22)
      replace HSD := Lib.hid (HSD.out.below S22)
      replace HN := Lib.hid (HN.out.below S22)
      replace HN2 := Lib.hid (HN2.out.below S22)
      clear hb22 S22
      have hns := HN.out.take hh (by rw [HDLL.out]; exact hhl)
      rw [← HPRE.out] at hns
      have HN1 := Lib.hid hns; clear hns
      have hhc : (hh : Int) ≤ (c2 : Int) := by omega
      rcases hA1 with rfl | ⟨ga, rfl, -⟩
      · skip
        go_wp2_with fail
        refine (nsame_yes _ _ _ _ d2 (by rw [HD2L.out]; omega) hh HD2L.out _ (HN2.out.below (by (repeat' (first | (with_reducible exact Below.refl _ _) | (with_reducible refine Below.setCell ?_ ?_ _) | (with_reducible refine Below.alloc ?_ ?_ _) | (with_reducible refine Below.drew ?_) | (with_reducible refine below_drewN ?_ _))) <;> (first | omega | (simp <;> omega)))) (HN1.out.below (by (repeat' (first | (with_reducible exact Below.refl _ _) | (with_reducible refine Below.setCell ?_ ?_ _) | (with_reducible refine Below.alloc ?_ ?_ _) | (with_reducible refine Below.drew ?_) | (with_reducible refine below_drewN ?_ _))) <;> (first | omega | (simp <;> omega))))).mono ?_
        rintro e w23 ⟨rfl, hb23⟩
        have S23 : Below w22.heap.size w22 w23 := kept_call hb23 (by (repeat' (first | (with_reducible exact Below.refl _ _) | (with_reducible refine Below.setCell ?_ ?_ _) | (with_reducible refine Below.alloc ?_ ?_ _) | (with_reducible refine Below.drew ?_) | (with_reducible refine below_drewN ?_ _))) <;> (first | omega | (simp <;> omega)))
        have Z23 := S23.size
        replace HK := Lib.hid (HK.out.below S23)
        replace HSD := Lib.hid (HSD.out.below S23)
        replace HN := Lib.hid (HN.out.below S23)
        replace HN2 := Lib.hid (HN2.out.below S23)
        replace HN1 := Lib.hid (HN1.out.below S23)
        clear hb23 S23
        go_wp2
        go_ret
        exact ⟨rfl, HK.out.below (by (repeat' (first | (with_reducible exact Below.refl _ _) | (with_reducible refine Below.setCell ?_ ?_ _) | (with_reducible refine Below.alloc ?_ ?_ _) | (with_reducible refine Below.drew ?_) | (with_reducible refine below_drewN ?_ _))) <;> (first | omega | (simp <;> omega)))⟩
      · skip
        go_wp2_with fail
        refine (nsame_yes _ _ _ _ d2 (by rw [HD2L.out]; omega) hh HD2L.out _ (HN2.out.below (by (repeat' (first | (with_reducible exact Below.refl _ _) | (with_reducible refine Below.setCell ?_ ?_ _) | (with_reducible refine Below.alloc ?_ ?_ _) | (with_reducible refine Below.drew ?_) | (with_reducible refine below_drewN ?_ _))) <;> (first | omega | (simp <;> omega)))) (HN1.out.below (by (repeat' (first | (with_reducible exact Below.refl _ _) | (with_reducible refine Below.setCell ?_ ?_ _) | (with_reducible refine Below.alloc ?_ ?_ _) | (with_reducible refine Below.drew ?_) | (with_reducible refine below_drewN ?_ _))) <;> (first | omega | (simp <;> omega))))).mono ?_
        rintro e w23 ⟨rfl, hb23⟩
        have S23 : Below w22.heap.size w22 w23 := kept_call hb23 (by (repeat' (first | (with_reducible exact Below.refl _ _) | (with_reducible refine Below.setCell ?_ ?_ _) | (with_reducible refine Below.alloc ?_ ?_ _) | (with_reducible refine Below.drew ?_) | (with_reducible refine below_drewN ?_ _))) <;> (first | omega | (simp <;> omega)))
        have Z23 := S23.size
        replace HK := Lib.hid (HK.out.below S23)
        replace HSD := Lib.hid (HSD.out.below S23)
        replace HN := Lib.hid (HN.out.below S23)
        replace HN2 := Lib.hid (HN2.out.below S23)
        replace HN1 := Lib.hid (HN1.out.below S23)
        clear hb23 S23
        go_wp2
        go_ret
        exact ⟨rfl, HK.out.below (by (repeat' (first | (with_reducible exact Below.refl _ _) | (with_reducible refine Below.setCell ?_ ?_ _) | (with_reducible refine Below.alloc ?_ ?_ _) | (with_reducible refine Below.drew ?_) | (with_reducible refine below_drewN ?_ _))) <;> (first | omega | (simp <;> omega)))⟩
theorem diff_row (v : Int) (hv : IntIn v) (n : Int) (hn : IntIn n) (k : Int) (hk : IntIn k) (W : World) :
    Walked 4 #[.int .i64 v, .int .i64 n, .int .i64 k] W := diff_walk v n k W
end Go.Proofs.Ytlnboheahbfgfaa
