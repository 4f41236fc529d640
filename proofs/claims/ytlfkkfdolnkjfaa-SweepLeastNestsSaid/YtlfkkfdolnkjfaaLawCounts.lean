/- The walk of SweepCounts. -/
import Derived.Test.YtlfkkfdolnkjfaaJ16
import Derived.Test.YtlfkkfdolnkjfaaLaw34
import Derived.Test.YtlfkkfdolnkjfaaLaw34Q
import Derived.Test.YtlfkkfdolnkjfaaSpans
import Derived.Test.YtlfkkfdolnkjfaaJ5
namespace Go.Proofs.Ytlfkkfdolnkjfaa
open Go.RowKit Go.Shelf Go.Sort
set_option linter.unusedSimpArgs false
set_option linter.unusedVariables false

theorem same_yes {W : World} {A B : Option Addr} {ca cb : Nat} {zs : List (Int × Int)} (h : SpansAt W A zs.length zs) (k : SpansAt W B zs.length zs) :
    Calls Try.prog 26 #[.slice A zs.length ca, .slice B zs.length cb] W (RB W (.bool true)) := by
  have := same_any A B zs.length zs.length ca cb zs zs W h k
  rwa [decide_eq_true rfl] at this
theorem psame_yes {W : World} {A B : Option Addr} {ca cb : Nat} {ps : List Pc} (h : PcsAt W A ps.length ps) (k : PcsAt W B ps.length ps) :
    Calls Try.prog 30 #[.slice A ps.length ca, .slice B ps.length cb] W (RB W (.bool true)) := by
  have := psame_any A B ps.length ps.length ca cb ps ps W h k
  rwa [eqP_yes rfl] at this
def CoRel (W : World) (i : Value) (G : Nat) (wr : World) : Prop := ∃ q : Nat, q ≤ 2 ∧ G = 2 - q ∧ i = .int .i64 q ∧ Below W.heap.size W wr
set_option maxRecDepth 100000 in
set_option maxHeartbeats 4000000 in
theorem counts_walk (RA LA : Option Addr) (rlen rcap llen lcap : Nat) (rs : List (Int × Int)) (ls : List Int) (at_ n : Int) (a0 : IntIn at_) (n0 : IntIn n) (w : World) (h : SpansAt w RA rlen rs) (k : IntsAt w LA llen ls) :
    Calls Try.prog 8 #[.slice RA rlen rcap, .slice LA llen lcap, .int .i64 at_, .int .i64 n] w (RB w (.bool true)) := by
  obtain rfl := h.1
  have hlm := h.2.1
  by_cases h10 : 10 < rs.length
  · have g0 : decide (10 < (rs.length : Int)) = true := decide_eq_true (by omega)
    have g0n : decide (10 < rs.length) = true := decide_eq_true h10
    have HK := Lib.hid (show Kp w w from Below.refl _ _)
    go_enter Try.func8, Try.ntmps8
    go_wp2_with fail
    refine (known34_any _).mono ?_
    rintro e w1 ⟨rfl, hb1⟩
    have S1 : Below w.heap.size w w1 := kept_call hb1 (by (repeat' (first | (with_reducible exact Below.refl _ _) | (with_reducible refine Below.setCell ?_ ?_ _) | (with_reducible refine Below.alloc ?_ ?_ _) | (with_reducible refine Below.drew ?_) | (with_reducible refine below_drewN ?_ _))) <;> (first | omega | (simp <;> omega)))
    have Z1 := S1.size
    replace HK := Lib.hid (HK.out.below S1)
    clear hb1 S1
    go_wp2
    go_ret
    exact ⟨rfl, HK.out.below (by (repeat' (first | (with_reducible exact Below.refl _ _) | (with_reducible refine Below.setCell ?_ ?_ _) | (with_reducible refine Below.alloc ?_ ?_ _) | (with_reducible refine Below.drew ?_) | (with_reducible refine below_drewN ?_ _))) <;> (first | omega | (simp <;> omega)))⟩
  have g0 : decide (10 < (rs.length : Int)) = false := decide_eq_false (by omega)
  have g0n : decide (10 < rs.length) = false := decide_eq_false h10
  have HK := Lib.hid (show Kp w w from Below.refl _ _)
  have HLI := Lib.hid k; have HR0 := Lib.hid h; clear h k
  go_enter Try.func8, Try.ntmps8
  go_wp2_with fail
  refine (new_any LA llen lcap ls _ HLI.out).mono ?_
  rintro e w1 ⟨rfl, ht1, hb1⟩
  have Z1 := hb1.size
  have T1 := ht1.lt
  replace HK := Lib.hid (HK.out.below hb1)
  clear hb1 HLI
  have HT := Lib.hid ht1; clear ht1
  go_wp2_with fail
  refine (tspans_any _ 12 20 _ HT.out (by omega) (by omega) (by omega) (by omega)).mono ?_
  rintro e w2 ⟨A2, c2, ss, rfl, sl, sN, srow, ssm, -, hg2⟩
  have Z2 : w1.heap.size ≤ w2.heap.size := hg2.size
  have HK2 := Lib.hid (show Kp w w2 from below_grown HK.out.b hg2 (Nat.le_refl _) Z1)
  clear HK; have HK := HK2; clear HK2 HT hg2
  have ZW2 := HK.out.b.size
  have hss := spans_of_row srow (by omega)
  have HS := Lib.hid hss; have HSM := Lib.hid ssm; have HSN := Lib.hid sN; clear hss srow ssm sN
  have HR := Lib.hid (HR0.out.below HK.out.b)
  clear HR0
  go_wp2
  have HBL := Lib.hid (show Blk (w2.alloc (.cells #[.slice RA rs.length rcap, .slice A2 ss.length c2] 43)) w2.heap.size 43 #[.slice RA rs.length rcap, .slice A2 ss.length c2] from Blk.new _ _ _)
  obtain ⟨W3, eW3⟩ : ∃ W3, W3 = w2.alloc (.cells #[.slice RA rs.length rcap, .slice A2 ss.length c2] 43) := ⟨_, rfl⟩
  have SW3 : Below w2.heap.size w2 W3 := by rw [eW3]; exact (Below.refl _ _).alloc (Nat.le_refl _) _
  have ZW3 := SW3.size
  replace HK := Lib.hid (HK.out.below SW3)
  replace HS := Lib.hid (HS.out.below SW3)
  replace HR := Lib.hid (HR.out.below SW3)
  clear SW3
  rw [← eW3] at HBL
  have l3 : w2.heap.size < W3.heap.size := by rw [eW3]; simp
  have hXS := Lib.hid (show ∀ q : Nat, q < 2 → ∃ (A : Option Addr) (c : Nat) (zs : List (Int × Int)), (#[Value.slice RA rs.length rcap, .slice A2 ss.length c2] : Array Value)[q]? = some (.slice A zs.length c) ∧ SpansAt W3 A zs.length zs from fun q hq => by
    have : q = 0 ∨ q = 1 := by omega
    rcases this with rfl | rfl
    · exact ⟨RA, rcap, rs, rfl, HR.out⟩
    · exact ⟨A2, c2, ss, rfl, HS.out⟩)
  clear HR HS HSM HSN
  try rw [← eW3]
  go_loopg [47] 2 (fun G i wr => CoRel W3 i G wr)
  case atStart => exact ⟨0, by omega, by omega, rfl, by first | exact Below.refl _ _ | (rw [eW3]; exact Below.refl _ _)⟩
  case round =>
    obtain ⟨q, hq, rfl, rfl, KR⟩ := hrel
    have ZR := KR.size
    replace HK := Lib.hid (HK.out.below KR)
    replace HBL := Lib.hid (HBL.out.below KR)
    have HKO := Lib.hid (show Kp W3 wr from KR)
    by_cases hlt : q < 2
    · have gq : decide ((q : Int) < 2) = true := decide_eq_true (by omega)
      have gqn : decide (q < 2) = true := decide_eq_true (by omega)
      obtain ⟨XA, xc, xs, hcq, hxs⟩ := hXS.out q hlt
      have HXS := Lib.hid (hxs.below KR)
      have hxl := hxs.2.1
      have cq : wr.cell? ⟨w2.heap.size, q, none⟩ = some (.slice XA xs.length xc) := (HBL.out.cell q).trans hcq
      clear hcq hxs KR HBL
      have wq : IntKind.i64.wrap ((q : Int) + 1) = ((q + 1 : Nat) : Int) := by rw [IntWalk.i64_in _ (by omega)]; omega
      go_wp2_with fail
      refine (within_any at_ 50 _ (by omega) (by omega)).mono ?_
      rintro e w1 ⟨rfl, rfl⟩
      have wy : IntKind.i64.wrap (at_ % 50 - 20) = at_ % 50 - 20 := IntWalk.i64_in _ (by omega)
      have HWY := Lib.hid (show ∀ p : Nat, p < 2 → ∃ y : Int, (#[Value.int .i64 at_, .int .i64 (at_ % 50 - 20)] : Array Value)[p]? = some (.int .i64 y) from fun p hp => by
        have : p = 0 ∨ p = 1 := by omega
        rcases this with rfl | rfl <;> exact ⟨_, rfl⟩)
      go_wp2
      have HB2 := Lib.hid (show Blk (wr.alloc (.cells #[.int .i64 at_, .int .i64 (at_ % 50 - 20)] 3)) wr.heap.size 3 #[.int .i64 at_, .int .i64 (at_ % 50 - 20)] from Blk.new _ _ _)
      obtain ⟨W4, eW4⟩ : ∃ W4, W4 = wr.alloc (.cells #[.int .i64 at_, .int .i64 (at_ % 50 - 20)] 3) := ⟨_, rfl⟩
      have SW4 : Below wr.heap.size wr W4 := by rw [eW4]; exact (Below.refl _ _).alloc (Nat.le_refl _) _
      have ZW4 := SW4.size
      replace HK := Lib.hid (HK.out.below SW4)
      replace HXS := Lib.hid (HXS.out.below SW4)
      replace HKO := Lib.hid (HKO.out.below SW4)
      clear SW4
      rw [← eW4] at HB2
      have l4 : wr.heap.size < W4.heap.size := by rw [eW4]; simp
      clear wy cq
      try rw [← eW4]
      obtain ⟨g4, e4⟩ : ∃ g, g = wr.heap.size := ⟨_, rfl⟩
      have l4w : w2.heap.size < g4 := by omega
      rw [← e4] at HB2 l4 ⊢
      clear e4
      go_loopg [57] 2 (fun G i wr => CoRel W4 i G wr)
      case atStart => exact ⟨0, by omega, by omega, rfl, by first | exact Below.refl _ _ | (rw [eW4]; exact Below.refl _ _)⟩
      case round =>
        obtain ⟨p, hp, rfl, rfl, KP⟩ := hrel
        have ZP := KP.size
        replace HK := Lib.hid (HK.out.below KP)
        replace HXS := Lib.hid (HXS.out.below KP)
        replace HKO := Lib.hid (HKO.out.below KP)
        replace HB2 := Lib.hid (HB2.out.below KP)
        have HKP := Lib.hid (show Kp W4 wr from KP)
        clear KP
        by_cases hlp : p < 2
        · have gp : decide ((p : Int) < 2) = true := decide_eq_true (by omega)
          have gpn : decide (p < 2) = true := decide_eq_true (by omega)
          obtain ⟨y, hy⟩ := HWY.out p hlp
          have cy : wr.cell? ⟨g4, p, none⟩ = some (.int .i64 y) := (HB2.out.cell p).trans hy
          clear hy
          have wp : IntKind.i64.wrap ((p : Int) + 1) = ((p + 1 : Nat) : Int) := by rw [IntWalk.i64_in _ (by omega)]; omega
          obtain ⟨cv, hcv⟩ : ∃ cv, ctV xs y = cv := ⟨_, rfl⟩
          obtain ⟨ce, hce⟩ : ∃ ce, ckE xs = ce := ⟨_, rfl⟩
          have R1 := Lib.hid (fun W h => hcv ▸ hce ▸ scount_any XA xs.length xc xs y W h)
          have R2 := Lib.hid (fun W h => hcv ▸ hce ▸ rcount_any XA xs.length xc xs y W h)
          clear hcv hce
          go_wp2_with fail
          refine (R1.out _ (HXS.out.below (by (repeat' (first | (with_reducible exact Below.refl _ _) | (with_reducible refine Below.setCell ?_ ?_ _) | (with_reducible refine Below.alloc ?_ ?_ _) | (with_reducible refine Below.drew ?_) | (with_reducible refine below_drewN ?_ _))) <;> (first | omega | (simp <;> omega))))).mono ?_
          rintro e w6 ⟨rfl, hb6⟩
          have S6 : Below wr.heap.size wr w6 := kept_call hb6 (by (repeat' (first | (with_reducible exact Below.refl _ _) | (with_reducible refine Below.setCell ?_ ?_ _) | (with_reducible refine Below.alloc ?_ ?_ _) | (with_reducible refine Below.drew ?_) | (with_reducible refine below_drewN ?_ _))) <;> (first | omega | (simp <;> omega)))
          have Z6 := S6.size
          replace HK := Lib.hid (HK.out.below S6)
          replace HXS := Lib.hid (HXS.out.below S6)
          replace HKO := Lib.hid (HKO.out.below S6)
          replace HB2 := Lib.hid (HB2.out.below S6)
          replace HKP := Lib.hid (HKP.out.below S6)
          clear hb6 S6
          clear cy
          go_wp2_with fail
          refine (R2.out _ (HXS.out.below (by (repeat' (first | (with_reducible exact Below.refl _ _) | (with_reducible refine Below.setCell ?_ ?_ _) | (with_reducible refine Below.alloc ?_ ?_ _) | (with_reducible refine Below.drew ?_) | (with_reducible refine below_drewN ?_ _))) <;> (first | omega | (simp <;> omega))))).mono ?_
          rintro e w7 ⟨rfl, hb7⟩
          have S7 : Below w6.heap.size w6 w7 := kept_call hb7 (by (repeat' (first | (with_reducible exact Below.refl _ _) | (with_reducible refine Below.setCell ?_ ?_ _) | (with_reducible refine Below.alloc ?_ ?_ _) | (with_reducible refine Below.drew ?_) | (with_reducible refine below_drewN ?_ _))) <;> (first | omega | (simp <;> omega)))
          have Z7 := S7.size
          replace HK := Lib.hid (HK.out.below S7)
          replace HXS := Lib.hid (HXS.out.below S7)
          replace HKO := Lib.hid (HKO.out.below S7)
          replace HB2 := Lib.hid (HB2.out.below S7)
          replace HKP := Lib.hid (HKP.out.below S7)
          clear hb7 S7
          go_wp2
          go_roundg (2 - (p + 1))
          case measure => omega
          case rel => exact ⟨p + 1, by omega, by omega, by go_num, HKP.out.below (by (repeat' (first | (with_reducible exact Below.refl _ _) | (with_reducible refine Below.setCell ?_ ?_ _) | (with_reducible refine Below.alloc ?_ ?_ _) | (with_reducible refine Below.drew ?_) | (with_reducible refine below_drewN ?_ _))) <;> (first | omega | (simp <;> omega)))⟩
        · obtain rfl : p = 2 := by omega
          have gp : decide (((2 : Nat) : Int) < 2) = false := by decide
          have gp2 : decide ((2 : Int) < 2) = false := by decide
          clear HB2 HWY HKP
          go_wp2_with fail
          refine (sprofile_any XA xs.length xc xs _ (HXS.out.below (by (repeat' (first | (with_reducible exact Below.refl _ _) | (with_reducible refine Below.setCell ?_ ?_ _) | (with_reducible refine Below.alloc ?_ ?_ _) | (with_reducible refine Below.drew ?_) | (with_reducible refine below_drewN ?_ _))) <;> (first | omega | (simp <;> omega))))).mono ?_
          rintro e w6 ⟨A6, c6, ps, rfl, hpp, hpx, hb6⟩
          have S6 : Below wr.heap.size wr w6 := kept_call hb6 (by (repeat' (first | (with_reducible exact Below.refl _ _) | (with_reducible refine Below.setCell ?_ ?_ _) | (with_reducible refine Below.alloc ?_ ?_ _) | (with_reducible refine Below.drew ?_) | (with_reducible refine below_drewN ?_ _))) <;> (first | omega | (simp <;> omega)))
          have Z6 := S6.size
          have HPP := Lib.hid (hpp)
          replace HK := Lib.hid (HK.out.below S6)
          replace HXS := Lib.hid (HXS.out.below S6)
          replace HKO := Lib.hid (HKO.out.below S6)
          clear hb6 S6
          clear hpp
          go_wp2_with fail
          refine (rprofile_any XA xs.length xc xs _ (HXS.out.below (by (repeat' (first | (with_reducible exact Below.refl _ _) | (with_reducible refine Below.setCell ?_ ?_ _) | (with_reducible refine Below.alloc ?_ ?_ _) | (with_reducible refine Below.drew ?_) | (with_reducible refine below_drewN ?_ _))) <;> (first | omega | (simp <;> omega))))).mono ?_
          rintro e w7 ⟨A7, c7, qs, rfl, hqq, hqx, hb7⟩
          have S7 : Below w6.heap.size w6 w7 := kept_call hb7 (by (repeat' (first | (with_reducible exact Below.refl _ _) | (with_reducible refine Below.setCell ?_ ?_ _) | (with_reducible refine Below.alloc ?_ ?_ _) | (with_reducible refine Below.drew ?_) | (with_reducible refine below_drewN ?_ _))) <;> (first | omega | (simp <;> omega)))
          have Z7 := S7.size
          have HPQ := Lib.hid (hqq)
          replace HK := Lib.hid (HK.out.below S7)
          replace HXS := Lib.hid (HXS.out.below S7)
          replace HKO := Lib.hid (HKO.out.below S7)
          replace HPP := Lib.hid (HPP.out.below S7)
          clear hb7 S7
          clear hqq
          obtain rfl := PX_uniq hpx hqx
          clear hpx hqx
          go_wp2_with fail
          refine (sLeast_any XA xs.length xc xs n _ (HXS.out.below (by (repeat' (first | (with_reducible exact Below.refl _ _) | (with_reducible refine Below.setCell ?_ ?_ _) | (with_reducible refine Below.alloc ?_ ?_ _) | (with_reducible refine Below.drew ?_) | (with_reducible refine below_drewN ?_ _))) <;> (first | omega | (simp <;> omega))))).mono ?_
          rintro e w8 ⟨A8, c8, us, rfl, hpp, hpx, hb8⟩
          have S8 : Below w7.heap.size w7 w8 := kept_call hb8 (by (repeat' (first | (with_reducible exact Below.refl _ _) | (with_reducible refine Below.setCell ?_ ?_ _) | (with_reducible refine Below.alloc ?_ ?_ _) | (with_reducible refine Below.drew ?_) | (with_reducible refine below_drewN ?_ _))) <;> (first | omega | (simp <;> omega)))
          have Z8 := S8.size
          have HLA := Lib.hid (hpp)
          replace HK := Lib.hid (HK.out.below S8)
          replace HXS := Lib.hid (HXS.out.below S8)
          replace HKO := Lib.hid (HKO.out.below S8)
          replace HPP := Lib.hid (HPP.out.below S8)
          replace HPQ := Lib.hid (HPQ.out.below S8)
          clear hb8 S8
          clear hpp
          go_wp2_with fail
          refine (rLeast_any XA xs.length xc xs n _ (HXS.out.below (by (repeat' (first | (with_reducible exact Below.refl _ _) | (with_reducible refine Below.setCell ?_ ?_ _) | (with_reducible refine Below.alloc ?_ ?_ _) | (with_reducible refine Below.drew ?_) | (with_reducible refine below_drewN ?_ _))) <;> (first | omega | (simp <;> omega))))).mono ?_
          rintro e w9 ⟨A9, c9, vs, rfl, hqq, hqx, hb9⟩
          have S9 : Below w8.heap.size w8 w9 := kept_call hb9 (by (repeat' (first | (with_reducible exact Below.refl _ _) | (with_reducible refine Below.setCell ?_ ?_ _) | (with_reducible refine Below.alloc ?_ ?_ _) | (with_reducible refine Below.drew ?_) | (with_reducible refine below_drewN ?_ _))) <;> (first | omega | (simp <;> omega)))
          have Z9 := S9.size
          have HLB := Lib.hid (hqq)
          replace HK := Lib.hid (HK.out.below S9)
          replace HXS := Lib.hid (HXS.out.below S9)
          replace HKO := Lib.hid (HKO.out.below S9)
          replace HPP := Lib.hid (HPP.out.below S9)
          replace HPQ := Lib.hid (HPQ.out.below S9)
          replace HLA := Lib.hid (HLA.out.below S9)
          clear hb9 S9
          clear hqq
          obtain rfl := LX_uniq hpx hqx
          clear hpx hqx
          have wn : IntKind.i64.wrap (1 + n % 6) = 1 + n % 6 := IntWalk.i64_in _ (by omega)
          go_wp2_with fail
          refine (within_any n 6 _ (by omega) (by omega)).mono ?_
          rintro e w10 ⟨rfl, rfl⟩
          go_wp2_with fail
          refine (sLeast_any XA xs.length xc xs (1 + n % 6) _ (HXS.out.below (by (repeat' (first | (with_reducible exact Below.refl _ _) | (with_reducible refine Below.setCell ?_ ?_ _) | (with_reducible refine Below.alloc ?_ ?_ _) | (with_reducible refine Below.drew ?_) | (with_reducible refine below_drewN ?_ _))) <;> (first | omega | (simp <;> omega))))).mono ?_
          rintro e w10 ⟨A10, c10, ys, rfl, hpp, hpx, hb10⟩
          have S10 : Below w9.heap.size w9 w10 := kept_call hb10 (by (repeat' (first | (with_reducible exact Below.refl _ _) | (with_reducible refine Below.setCell ?_ ?_ _) | (with_reducible refine Below.alloc ?_ ?_ _) | (with_reducible refine Below.drew ?_) | (with_reducible refine below_drewN ?_ _))) <;> (first | omega | (simp <;> omega)))
          have Z10 := S10.size
          have HLC := Lib.hid (hpp)
          replace HK := Lib.hid (HK.out.below S10)
          replace HXS := Lib.hid (HXS.out.below S10)
          replace HKO := Lib.hid (HKO.out.below S10)
          replace HPP := Lib.hid (HPP.out.below S10)
          replace HPQ := Lib.hid (HPQ.out.below S10)
          replace HLA := Lib.hid (HLA.out.below S10)
          replace HLB := Lib.hid (HLB.out.below S10)
          clear hb10 S10
          clear hpp
          go_wp2_with fail
          refine (within_any n 6 _ (by omega) (by omega)).mono ?_
          rintro e w11 ⟨rfl, rfl⟩
          go_wp2_with fail
          refine (rLeast_any XA xs.length xc xs (1 + n % 6) _ (HXS.out.below (by (repeat' (first | (with_reducible exact Below.refl _ _) | (with_reducible refine Below.setCell ?_ ?_ _) | (with_reducible refine Below.alloc ?_ ?_ _) | (with_reducible refine Below.drew ?_) | (with_reducible refine below_drewN ?_ _))) <;> (first | omega | (simp <;> omega))))).mono ?_
          rintro e w11 ⟨A11, c11, zs, rfl, hqq, hqx, hb11⟩
          have S11 : Below w10.heap.size w10 w11 := kept_call hb11 (by (repeat' (first | (with_reducible exact Below.refl _ _) | (with_reducible refine Below.setCell ?_ ?_ _) | (with_reducible refine Below.alloc ?_ ?_ _) | (with_reducible refine Below.drew ?_) | (with_reducible refine below_drewN ?_ _))) <;> (first | omega | (simp <;> omega)))
          have Z11 := S11.size
          have HLD := Lib.hid (hqq)
          replace HK := Lib.hid (HK.out.below S11)
          replace HXS := Lib.hid (HXS.out.below S11)
          replace HKO := Lib.hid (HKO.out.below S11)
          replace HPP := Lib.hid (HPP.out.below S11)
          replace HPQ := Lib.hid (HPQ.out.below S11)
          replace HLA := Lib.hid (HLA.out.below S11)
          replace HLB := Lib.hid (HLB.out.below S11)
          replace HLC := Lib.hid (HLC.out.below S11)
          clear hb11 S11
          clear hqq wn
          obtain rfl := LX_uniq hpx hqx
          clear hpx hqx
          go_wp2_with fail
          refine (smost_any XA xs.length xc xs _ (HXS.out.below (by (repeat' (first | (with_reducible exact Below.refl _ _) | (with_reducible refine Below.setCell ?_ ?_ _) | (with_reducible refine Below.alloc ?_ ?_ _) | (with_reducible refine Below.drew ?_) | (with_reducible refine below_drewN ?_ _))) <;> (first | omega | (simp <;> omega))))).mono ?_
          rintro e w12 ⟨m1, A12, c12, ds, rfl, hpp, hpx, hb12⟩
          have S12 : Below w11.heap.size w11 w12 := kept_call hb12 (by (repeat' (first | (with_reducible exact Below.refl _ _) | (with_reducible refine Below.setCell ?_ ?_ _) | (with_reducible refine Below.alloc ?_ ?_ _) | (with_reducible refine Below.drew ?_) | (with_reducible refine below_drewN ?_ _))) <;> (first | omega | (simp <;> omega)))
          have Z12 := S12.size
          have HME := Lib.hid (hpp)
          replace HK := Lib.hid (HK.out.below S12)
          replace HXS := Lib.hid (HXS.out.below S12)
          replace HKO := Lib.hid (HKO.out.below S12)
          replace HPP := Lib.hid (HPP.out.below S12)
          replace HPQ := Lib.hid (HPQ.out.below S12)
          replace HLA := Lib.hid (HLA.out.below S12)
          replace HLB := Lib.hid (HLB.out.below S12)
          replace HLC := Lib.hid (HLC.out.below S12)
          replace HLD := Lib.hid (HLD.out.below S12)
          clear hb12 S12
          clear hpp
          go_wp2_with fail
          refine (rMost_any XA xs.length xc xs _ (HXS.out.below (by (repeat' (first | (with_reducible exact Below.refl _ _) | (with_reducible refine Below.setCell ?_ ?_ _) | (with_reducible refine Below.alloc ?_ ?_ _) | (with_reducible refine Below.drew ?_) | (with_reducible refine below_drewN ?_ _))) <;> (first | omega | (simp <;> omega))))).mono ?_
          rintro e w13 ⟨m2, A13, c13, es, rfl, hqq, hqx, hb13⟩
          have S13 : Below w12.heap.size w12 w13 := kept_call hb13 (by (repeat' (first | (with_reducible exact Below.refl _ _) | (with_reducible refine Below.setCell ?_ ?_ _) | (with_reducible refine Below.alloc ?_ ?_ _) | (with_reducible refine Below.drew ?_) | (with_reducible refine below_drewN ?_ _))) <;> (first | omega | (simp <;> omega)))
          have Z13 := S13.size
          have HMF := Lib.hid (hqq)
          replace HK := Lib.hid (HK.out.below S13)
          replace HXS := Lib.hid (HXS.out.below S13)
          replace HKO := Lib.hid (HKO.out.below S13)
          replace HPP := Lib.hid (HPP.out.below S13)
          replace HPQ := Lib.hid (HPQ.out.below S13)
          replace HLA := Lib.hid (HLA.out.below S13)
          replace HLB := Lib.hid (HLB.out.below S13)
          replace HLC := Lib.hid (HLC.out.below S13)
          replace HLD := Lib.hid (HLD.out.below S13)
          replace HME := Lib.hid (HME.out.below S13)
          clear hb13 S13
          clear hqq
          obtain ⟨rfl, rfl⟩ := MX_uniq hpx hqx
          clear hpx hqx
          generalize ckE xs = ce at *
          generalize lE xs n = ne at *
          generalize lE xs (1 + n % 6) = nf at *
          go_wp2_with fail
          refine (psame_yes (HPP.out.below (by (repeat' (first | (with_reducible exact Below.refl _ _) | (with_reducible refine Below.setCell ?_ ?_ _) | (with_reducible refine Below.alloc ?_ ?_ _) | (with_reducible refine Below.drew ?_) | (with_reducible refine below_drewN ?_ _))) <;> (first | omega | (simp <;> omega)))) (HPQ.out.below (by (repeat' (first | (with_reducible exact Below.refl _ _) | (with_reducible refine Below.setCell ?_ ?_ _) | (with_reducible refine Below.alloc ?_ ?_ _) | (with_reducible refine Below.drew ?_) | (with_reducible refine below_drewN ?_ _))) <;> (first | omega | (simp <;> omega))))).mono ?_
          rintro e w14 ⟨rfl, hb14⟩
          have S14 : Below w13.heap.size w13 w14 := kept_call hb14 (by (repeat' (first | (with_reducible exact Below.refl _ _) | (with_reducible refine Below.setCell ?_ ?_ _) | (with_reducible refine Below.alloc ?_ ?_ _) | (with_reducible refine Below.drew ?_) | (with_reducible refine below_drewN ?_ _))) <;> (first | omega | (simp <;> omega)))
          have Z14 := S14.size
          replace HK := Lib.hid (HK.out.below S14)
          replace HXS := Lib.hid (HXS.out.below S14)
          replace HKO := Lib.hid (HKO.out.below S14)
          replace HPP := Lib.hid (HPP.out.below S14)
          replace HPQ := Lib.hid (HPQ.out.below S14)
          replace HLA := Lib.hid (HLA.out.below S14)
          replace HLB := Lib.hid (HLB.out.below S14)
          replace HLC := Lib.hid (HLC.out.below S14)
          replace HLD := Lib.hid (HLD.out.below S14)
          replace HME := Lib.hid (HME.out.below S14)
          replace HMF := Lib.hid (HMF.out.below S14)
          clear hb14 S14
          clear HPP HPQ
          go_wp2_with fail
          refine (same_yes (HLA.out.below (by (repeat' (first | (with_reducible exact Below.refl _ _) | (with_reducible refine Below.setCell ?_ ?_ _) | (with_reducible refine Below.alloc ?_ ?_ _) | (with_reducible refine Below.drew ?_) | (with_reducible refine below_drewN ?_ _))) <;> (first | omega | (simp <;> omega)))) (HLB.out.below (by (repeat' (first | (with_reducible exact Below.refl _ _) | (with_reducible refine Below.setCell ?_ ?_ _) | (with_reducible refine Below.alloc ?_ ?_ _) | (with_reducible refine Below.drew ?_) | (with_reducible refine below_drewN ?_ _))) <;> (first | omega | (simp <;> omega))))).mono ?_
          rintro e w15 ⟨rfl, hb15⟩
          have S15 : Below w14.heap.size w14 w15 := kept_call hb15 (by (repeat' (first | (with_reducible exact Below.refl _ _) | (with_reducible refine Below.setCell ?_ ?_ _) | (with_reducible refine Below.alloc ?_ ?_ _) | (with_reducible refine Below.drew ?_) | (with_reducible refine below_drewN ?_ _))) <;> (first | omega | (simp <;> omega)))
          have Z15 := S15.size
          replace HK := Lib.hid (HK.out.below S15)
          replace HXS := Lib.hid (HXS.out.below S15)
          replace HKO := Lib.hid (HKO.out.below S15)
          replace HLA := Lib.hid (HLA.out.below S15)
          replace HLB := Lib.hid (HLB.out.below S15)
          replace HLC := Lib.hid (HLC.out.below S15)
          replace HLD := Lib.hid (HLD.out.below S15)
          replace HME := Lib.hid (HME.out.below S15)
          replace HMF := Lib.hid (HMF.out.below S15)
          clear hb15 S15
          clear HLA HLB
          go_wp2_with fail
          refine (same_yes (HLC.out.below (by (repeat' (first | (with_reducible exact Below.refl _ _) | (with_reducible refine Below.setCell ?_ ?_ _) | (with_reducible refine Below.alloc ?_ ?_ _) | (with_reducible refine Below.drew ?_) | (with_reducible refine below_drewN ?_ _))) <;> (first | omega | (simp <;> omega)))) (HLD.out.below (by (repeat' (first | (with_reducible exact Below.refl _ _) | (with_reducible refine Below.setCell ?_ ?_ _) | (with_reducible refine Below.alloc ?_ ?_ _) | (with_reducible refine Below.drew ?_) | (with_reducible refine below_drewN ?_ _))) <;> (first | omega | (simp <;> omega))))).mono ?_
          rintro e w16 ⟨rfl, hb16⟩
          have S16 : Below w15.heap.size w15 w16 := kept_call hb16 (by (repeat' (first | (with_reducible exact Below.refl _ _) | (with_reducible refine Below.setCell ?_ ?_ _) | (with_reducible refine Below.alloc ?_ ?_ _) | (with_reducible refine Below.drew ?_) | (with_reducible refine below_drewN ?_ _))) <;> (first | omega | (simp <;> omega)))
          have Z16 := S16.size
          replace HK := Lib.hid (HK.out.below S16)
          replace HXS := Lib.hid (HXS.out.below S16)
          replace HKO := Lib.hid (HKO.out.below S16)
          replace HLC := Lib.hid (HLC.out.below S16)
          replace HLD := Lib.hid (HLD.out.below S16)
          replace HME := Lib.hid (HME.out.below S16)
          replace HMF := Lib.hid (HMF.out.below S16)
          clear hb16 S16
          clear HLC HLD
          go_wp2_with fail
          refine (same_yes (HME.out.below (by (repeat' (first | (with_reducible exact Below.refl _ _) | (with_reducible refine Below.setCell ?_ ?_ _) | (with_reducible refine Below.alloc ?_ ?_ _) | (with_reducible refine Below.drew ?_) | (with_reducible refine below_drewN ?_ _))) <;> (first | omega | (simp <;> omega)))) (HMF.out.below (by (repeat' (first | (with_reducible exact Below.refl _ _) | (with_reducible refine Below.setCell ?_ ?_ _) | (with_reducible refine Below.alloc ?_ ?_ _) | (with_reducible refine Below.drew ?_) | (with_reducible refine below_drewN ?_ _))) <;> (first | omega | (simp <;> omega))))).mono ?_
          rintro e w17 ⟨rfl, hb17⟩
          have S17 : Below w16.heap.size w16 w17 := kept_call hb17 (by (repeat' (first | (with_reducible exact Below.refl _ _) | (with_reducible refine Below.setCell ?_ ?_ _) | (with_reducible refine Below.alloc ?_ ?_ _) | (with_reducible refine Below.drew ?_) | (with_reducible refine below_drewN ?_ _))) <;> (first | omega | (simp <;> omega)))
          have Z17 := S17.size
          replace HK := Lib.hid (HK.out.below S17)
          replace HXS := Lib.hid (HXS.out.below S17)
          replace HKO := Lib.hid (HKO.out.below S17)
          replace HME := Lib.hid (HME.out.below S17)
          replace HMF := Lib.hid (HMF.out.below S17)
          clear hb17 S17
          clear HME HMF
          go_wp2
          go_roundg (2 - (q + 1))
          case measure => omega
          case rel => exact ⟨q + 1, by omega, by omega, by go_num, HKO.out.below (by (repeat' (first | (with_reducible exact Below.refl _ _) | (with_reducible refine Below.setCell ?_ ?_ _) | (with_reducible refine Below.alloc ?_ ?_ _) | (with_reducible refine Below.drew ?_) | (with_reducible refine below_drewN ?_ _))) <;> (first | omega | (simp <;> omega)))⟩
    · obtain rfl : q = 2 := by omega
      have gq : decide (((2 : Nat) : Int) < 2) = false := by decide
      have gq2 : decide ((2 : Int) < 2) = false := by decide
      clear HBL hXS
      go_wp2_with fail
      refine (known34_any _).mono ?_
      rintro e w21 ⟨rfl, hb21⟩
      have S21 : Below wr.heap.size wr w21 := kept_call hb21 (by (repeat' (first | (with_reducible exact Below.refl _ _) | (with_reducible refine Below.setCell ?_ ?_ _) | (with_reducible refine Below.alloc ?_ ?_ _) | (with_reducible refine Below.drew ?_) | (with_reducible refine below_drewN ?_ _))) <;> (first | omega | (simp <;> omega)))
      have Z21 := S21.size
      replace HK := Lib.hid (HK.out.below S21)
      clear hb21 S21
      go_wp2
      go_ret
      exact ⟨rfl, HK.out.below (by (repeat' (first | (with_reducible exact Below.refl _ _) | (with_reducible refine Below.setCell ?_ ?_ _) | (with_reducible refine Below.alloc ?_ ?_ _) | (with_reducible refine Below.drew ?_) | (with_reducible refine below_drewN ?_ _))) <;> (first | omega | (simp <;> omega)))⟩
theorem counts_row (A : Option Addr) (len cap : Nat) (zs : List (Int × Int)) (_ : A = none → cap = 0) {w : World} (h : SpansAt w A len zs) (_ : ∀ z ∈ zs, IntIn z.1 ∧ IntIn z.2) (B : Option Addr) (blen bcap : Nat) (bs : List Int) (k : IntsAt w B blen bs) (a : Int) (ha : IntIn a) (n : Int) (hn : IntIn n) (W : World) (hw : W = w) :
    Walked 8 #[.slice A len cap, .slice B blen bcap, .int .i64 a, .int .i64 n] W := by
  subst hw; exact counts_walk A B len cap blen bcap zs bs a n ha hn W h k
end Go.Proofs.Ytlfkkfdolnkjfaa
