/- The walk of the law SmearIsNearUTC. -/
import Derived.Test.YtmebkbnildjfhaaLawNContains
import Derived.Test.YtmebkbnildjfhaaLeapE
import Derived.Deep.DeepCutAuto
import Derived.Deep.LoopGhost
namespace Go.Proofs.Ytmebkbnildjfhaa
open Go.RowKit
set_option linter.unusedSimpArgs false
set_option linter.unusedVariables false

/-- Some window of the first q elements holds t. -/
def anyW (first : Int) (zs : List (Int × Int)) (t : Int) : Nat → Bool
  | 0 => false
  | q + 1 => anyW first zs t q || (decide (wiLo first zs q ≤ t) && decide (t < wiHi zs q))
theorem anyW_no {first : Int} {zs : List (Int × Int)} {t : Int} : ∀ q, anyW first zs t q = false → ∀ j, j < q → ¬ (wiLo first zs j ≤ t ∧ t < wiHi zs j)
  | 0, _, j, hj => by omega
  | q + 1, h, j, hj => by
    unfold anyW at h
    simp only [Bool.or_eq_false_iff, Bool.and_eq_false_iff, decide_eq_false_iff_not] at h
    by_cases e : j = q
    · subst e; rintro ⟨a, b⟩; rcases h.2 with h | h <;> contradiction
    · exact anyW_no q h.1 j (by omega)
/-- UTC and the smeared clock, by the elements that an instant has passed. -/
theorem sh_window {first : Int} {zs : List (Int × Int)} (hv : LVal first zs) {t : Int} {j : Nat} (hj : j < zs.length) (h1 : wiLo first zs j ≤ t) (h2 : t < wiHi zs j) : shL first zs t = wsLo zs j + (t - wiLo first zs j) * 86400 / (86400 + (zs.getD j (0, 0)).2 - oldL first zs j) := by
  unfold shL
  rw [shAt_up hv hj h2 zs.length (by omega) (Nat.le_refl _), shAt, if_neg (by omega), if_pos h1, quo_down]
theorem sh_lo {first : Int} {zs : List (Int × Int)} (hv : LVal first zs) {j : Nat} (hj : j < zs.length) : shL first zs (wiLo first zs j) = wsLo zs j := by
  have hw := hv.win hj
  rw [sh_window hv hj (Int.le_refl _) (by omega), Int.sub_self, Int.zero_mul, Int.zero_ediv, Int.add_zero]
/-- Between the windows. -/
theorem sh_between {first : Int} {zs : List (Int × Int)} (hv : LVal first zs) {t : Int} {k : Nat} (hk : k ≤ zs.length) (h1 : k < zs.length → t < wiLo first zs k) (h2 : k = 0 ∨ wiHi zs (k - 1) ≤ t) : shL first zs t = t - oldL first zs k * 1048576 := by
  have e0 : shAt first zs t k = t - oldL first zs k * 1048576 := by
    cases k with
    | zero => rfl
    | succ j =>
      have h2 : wiHi zs j ≤ t := by rcases h2 with h2 | h2; omega; rwa [Nat.add_sub_cancel] at h2
      rw [shAt, if_pos h2, oldL_succ]
  unfold shL
  by_cases e : k = zs.length
  · rw [← e]; exact e0
  · have h3 := h1 (by omega)
    have hw := hv.win (i := k) (by omega)
    rw [shAt_up hv (q := k) (by omega) (by omega) zs.length (by omega) (Nat.le_refl _), shAt, if_neg (by omega), if_neg (by omega)]
    exact e0
theorem sh_hi {first : Int} {zs : List (Int × Int)} (hv : LVal first zs) {j : Nat} (hj : j < zs.length) : shL first zs (wiHi zs j) = wsHi zs j := by
  obtain ⟨-, -, -, w4⟩ := win_len (first := first) (zs := zs) j
  rw [sh_between hv (k := j + 1) (by omega) (fun h => by have := hv.asc h; omega) (.inr (by rw [Nat.add_sub_cancel]; exact Int.le_refl _)), oldL_succ]
  omega
/-- How far it is from UTC. -/
theorem near_utc {first : Int} {zs : List (Int × Int)} (hv : LVal first zs) (t : Int) : -524296 ≤ shL first zs t - ((utN first zs (t / 1048576) + (if utB first zs (t / 1048576) then 1 else 0)) * 1048576 + t % 1048576) ∧
    shL first zs t - ((utN first zs (t / 1048576) + (if utB first zs (t / 1048576) then 1 else 0)) * 1048576 + t % 1048576) ≤ 524296 ∧
    (anyW first zs t zs.length = false → shL first zs t - ((utN first zs (t / 1048576) + (if utB first zs (t / 1048576) then 1 else 0)) * 1048576 + t % 1048576) = 0) := by
  obtain ⟨k, hk, hU, h2, h1, -, -⟩ := ut_found hv (t / 1048576)
  have hN : utN first zs (t / 1048576) + (if utB first zs (t / 1048576) then 1 else 0) = utL first zs (t / 1048576) := by
    unfold utN
    cases utB first zs (t / 1048576) <;> simp
  rw [hN, hU]
  clear hN hU
  have hb : ∀ j, wiLo first zs j = ((zs.getD j (0, 0)).1 - 43200 + oldL first zs j) * 1048576 ∧ wiHi zs j = ((zs.getD j (0, 0)).1 + 43200 + (zs.getD j (0, 0)).2) * 1048576 := fun j => by
    unfold wiLo wiHi wsLo wsHi; omega
  have key : (t / 1048576 - oldL first zs k) * 1048576 + t % 1048576 = t - oldL first zs k * 1048576 := by omega
  rw [key]
  -- in the window of element j
  have inw : ∀ j, j < zs.length → wiLo first zs j ≤ t → t < wiHi zs j → (j = k ∨ j + 1 = k) → -524296 ≤ shL first zs t - (t - oldL first zs k * 1048576) ∧ shL first zs t - (t - oldL first zs k * 1048576) ≤ 524296 := by
    intro j hj a b hjk
    rw [sh_window hv hj a b]
    obtain ⟨b1, b2⟩ := hb j
    have hn := hv.near hj
    have es : wsLo zs j = ((zs.getD j (0, 0)).1 - 43200) * 1048576 := rfl
    rcases hjk with rfl | rfl
    · have h1 := h1 hj
      rcases hn with hn | hn
      · rw [show 86400 + (zs.getD j (0, 0)).2 - oldL first zs j = 86401 by omega]; omega
      · rw [show 86400 + (zs.getD j (0, 0)).2 - oldL first zs j = 86399 by omega]; omega
    · have h2 : (zs.getD j (0, 0)).1 + (zs.getD j (0, 0)).2 ≤ t / 1048576 := by rcases h2 with h2 | h2; omega; rwa [Nat.add_sub_cancel] at h2
      rw [oldL_succ]
      rcases hn with hn | hn
      · rw [show 86400 + (zs.getD j (0, 0)).2 - oldL first zs j = 86401 by omega]; omega
      · rw [show 86400 + (zs.getD j (0, 0)).2 - oldL first zs j = 86399 by omega]; omega
  -- where it is in none
  have out : (k < zs.length → t < wiLo first zs k) → (k = 0 ∨ wiHi zs (k - 1) ≤ t) → shL first zs t - (t - oldL first zs k * 1048576) = 0 := fun a b => by
    rw [sh_between hv hk a b]; omega
  by_cases c1 : k < zs.length ∧ wiLo first zs k ≤ t
  · have hh : t < wiHi zs k := by
      have := (hb k).2; have := h1 c1.1; omega
    obtain ⟨x, y⟩ := inw k c1.1 c1.2 hh (.inl rfl)
    exact ⟨x, y, fun hn => absurd ⟨c1.2, hh⟩ (anyW_no _ hn k c1.1)⟩
  · by_cases c2 : k = 0 ∨ wiHi zs (k - 1) ≤ t
    · have e := out (fun h => by omega) c2
      rw [e]; exact ⟨by omega, by omega, fun _ => rfl⟩
    · have hk0 : k ≠ 0 := fun e => c2 (.inl e)
      have hlt : t < wiHi zs (k - 1) := by
        by_cases e : wiHi zs (k - 1) ≤ t
        · exact absurd (.inr e) c2
        · omega
      have hge : wiLo first zs (k - 1) ≤ t := by
        have b1 := (hb (k - 1)).1
        have hn := hv.near (i := k - 1) (by omega)
        rcases h2 with h2 | h2
        · omega
        · omega
      obtain ⟨x, y⟩ := inw (k - 1) (by omega) hge hlt (.inr (by omega))
      exact ⟨x, y, fun hn => absurd ⟨hge, hlt⟩ (anyW_no _ hn (k - 1) (by omega))⟩
theorem ut_in {ls : List (Int × Int)} (h : WTab ls) {t : Int} (t0 : 536870912 ≤ t) (t1 : t ≤ 140737488355328) : inS (utN 10 ls (t / 1048576)) = true := by
  obtain ⟨k, hk, hU, h2, h1, -, -⟩ := ut_found h.1 (t / 1048576)
  have hN : utN 10 ls (t / 1048576) + (if utB 10 ls (t / 1048576) then 1 else 0) = utL 10 ls (t / 1048576) := by
    unfold utN
    cases utB 10 ls (t / 1048576) <;> simp
  have ho := old_bound (first := 10) (zs := ls) (q := k) (fun j hj => h.1.2.2.2 j (by omega))
  have h4 := h.2.1
  rw [inS_true]
  split at hN <;> omega
def NURel (w : World) (b1 : Nat) (A : Option Addr) (cap : Nat) (ls : List (Int × Int)) (tt : Int) (G : Nat) (s9 i : Value) (wr : World) : Prop :=
  ∃ q : Nat, q ≤ ls.length ∧ G = ls.length - q ∧ i = .int .i64 q ∧ s9 = .bool (anyW 10 ls tt q) ∧ Blk wr b1 25 #[.int .i64 10, .slice A ls.length cap] ∧ Below w.heap.size w wr
set_option maxRecDepth 100000 in
set_option maxHeartbeats 2000000 in
theorem nutc_core (A : Option Addr) (len cap : Nat) (zs : List Int) (v : Int) (hv : IntIn v) (w : World) (hA : IntsAt w A len zs) :
    Calls Try.prog 8 #[.slice A len cap, .int .i64 v] w (RB w (.bool true)) := by
  have H := Lib.hid hA; clear hA
  go_enter Try.func8, Try.ntmps8
  go_wp2_with fail
  refine (wleaps_any A len cap zs _ H.out).mono ?_
  rintro e w1 ⟨A1, c1, ls, rfl, hT, hP, hb1⟩
  have K1 : Below w.heap.size w w1 := kept_call hb1 (by (repeat' (first | (with_reducible exact Below.refl _ _) | (with_reducible refine Below.setCell ?_ ?_ _) | (with_reducible refine Below.alloc ?_ ?_ _) | (with_reducible refine Below.drew ?_) | (with_reducible refine below_drewN ?_ _))) <;> (first | omega | (simp <;> omega)))
  have Z1 : w.heap.size ≤ w1.heap.size := K1.size
  clear hb1
  have P := Lib.hid hP; have HT := Lib.hid hT; clear hP hT H
  go_wp2_with fail
  refine (near_any A1 ls.length c1 ls v HT.out rfl hv _ (P.out.below (by (repeat' (first | (with_reducible exact Below.refl _ _) | (with_reducible refine Below.setCell ?_ ?_ _) | (with_reducible refine Below.alloc ?_ ?_ _) | (with_reducible refine Below.drew ?_) | (with_reducible refine below_drewN ?_ _))) <;> (first | omega | (simp <;> omega))))).mono ?_
  rintro e w2 ⟨tt, rfl, t0, t1, hb2⟩
  have K2 : Below w1.heap.size w1 w2 := kept_call hb2 (by (repeat' (first | (with_reducible exact Below.refl _ _) | (with_reducible refine Below.setCell ?_ ?_ _) | (with_reducible refine Below.alloc ?_ ?_ _) | (with_reducible refine Below.drew ?_) | (with_reducible refine below_drewN ?_ _))) <;> (first | omega | (simp <;> omega)))
  have Z2 : w1.heap.size ≤ w2.heap.size := K2.size
  have b2_0 := Blk.keep (g := w1.heap.size) hb2 (by (repeat' (first | ((with_reducible refine' Blk.newE ?_); first | rfl | (simp; done)) | (with_reducible refine' Blk.alloc ?_ _) | (with_reducible refine' Blk.drew ?_) | (with_reducible refine' Blk.drewN ?_ _) | (with_reducible refine' Blk.put ?_ ?_) | (with_reducible refine' Blk.far ?_ ?_ _) | exact rfl)) <;> (first | omega | (simp <;> omega)))
  (try simp only [List.setIfInBounds_toArray, List.set_cons_zero, List.set_cons_succ] at b2_0)
  clear hb2
  obtain ⟨c2_0, f2_0, l2_0, e2_0, k2_0⟩ := Blk.facts b2_0
  have o2_0 := l2_0
  have hz := HT.out.in_
  have h := P.out
  have hin := ut_in HT.out t0 t1
  obtain ⟨d0, d1, d2⟩ := near_utc HT.out.1 tt
  have er := fun W (hW : Below w1.heap.size w1 W) => erV_in HT.out.1 (t := tt) ⟨by omega, by omega⟩ hin ▸ err_any 10 A1 ls.length c1 ls tt W (h.below hW) hz
  have ut := fun W (hW : Below w1.heap.size w1 W) => utV_in hin ▸ utc_any 10 A1 ls.length c1 ls tt HT.out.1 (by omega) (by omega) W (h.below hW) hz
  have wd := fun (q : Nat) (hq : q < ls.length) W (hW : Below w1.heap.size w1 W) => wdV_in HT.out.1 q hq ▸ windowS_any 10 A1 ls.length c1 ls (q : Int) W (h.below hW) hz
  have sl := fun (q : Nat) (hq : q < ls.length) (x0 : 134217728 ≤ wiLo 10 ls q) (x1 : wiLo 10 ls q ≤ 288230376151711744) W (hW : Below w1.heap.size w1 W) => sh_lo HT.out.1 hq ▸ smV_in HT.out.1 (t := wiLo 10 ls q) ⟨x0, x1⟩ ▸ smear_any 10 A1 ls.length c1 ls (wiLo 10 ls q) W (h.below hW) hz
  have sh := fun (q : Nat) (hq : q < ls.length) (x0 : 134217728 ≤ wiHi ls q) (x1 : wiHi ls q ≤ 288230376151711744) W (hW : Below w1.heap.size w1 W) => sh_hi HT.out.1 hq ▸ smV_in HT.out.1 (t := wiHi ls q) ⟨x0, x1⟩ ▸ smear_any 10 A1 ls.length c1 ls (wiHi ls q) W (h.below hW) hz
  have rv := fun W (hW : Below w1.heap.size w1 W) => bool_of (lvB_true.2 HT.out.1) (rlvalid_any 10 A1 ls.length c1 ls W (h.below hW) hz)
  have ER := Lib.hid er; have UTC := Lib.hid ut; have WD := Lib.hid wd; have SL := Lib.hid sl; have SH := Lib.hid sh; have RVV := Lib.hid rv
  clear er ut wd sl sh rv h hz hin
  have D2 := Lib.hid d2; clear d2
  generalize hd : shL 10 ls tt - ((utN 10 ls (tt / 1048576) + (if utB 10 ls (tt / 1048576) then 1 else 0)) * 1048576 + tt % 1048576) = d at *
  clear hd
  have p0 : 0 ≤ tt % 1048576 := by omega
  generalize utN 10 ls (tt / 1048576) = N at *
  generalize utB 10 ls (tt / 1048576) = B at *
  generalize tt % 1048576 = part at *
  have g1 : decide (524296 < d) = false := decide_eq_false (by omega)
  have g2 : decide (d < -524296) = false := decide_eq_false (by omega)
  have gp : decide (0 ≤ part) = true := decide_eq_true p0
  go_wp2_with fail
  refine (ER.out _ (by (repeat' (first | (with_reducible exact K2) | (with_reducible refine Below.setCell ?_ ?_ _) | (with_reducible refine Below.alloc ?_ ?_ _) | (with_reducible refine Below.drew ?_) | (with_reducible refine below_drewN ?_ _))) <;> (first | omega | (simp <;> omega)))).mono ?_
  rintro e w3 ⟨rfl, hb3⟩
  have K3 : Below w1.heap.size w1 w3 := kept_call hb3 (by (repeat' (first | (with_reducible exact K2) | (with_reducible refine Below.setCell ?_ ?_ _) | (with_reducible refine Below.alloc ?_ ?_ _) | (with_reducible refine Below.drew ?_) | (with_reducible refine below_drewN ?_ _))) <;> (first | omega | (simp <;> omega)))
  have Z3 : w1.heap.size ≤ w3.heap.size := K3.size
  have b2_0' := Blk.keep (g := w1.heap.size) hb3 (by (repeat' (first | (with_reducible refine' Blk.alloc ?_ _) | (with_reducible refine' Blk.drew ?_) | (with_reducible refine' Blk.drewN ?_ _) | (with_reducible refine' Blk.put ?_ ?_) | (with_reducible refine' Blk.far ?_ ?_ _) | exact b2_0 | exact rfl)) <;> (first | omega | (simp <;> omega)))
  (try simp only [List.setIfInBounds_toArray, List.set_cons_zero, List.set_cons_succ] at b2_0')
  clear hb3 K2
  clear b2_0 c2_0 f2_0 l2_0 e2_0 k2_0; have b2_0 := b2_0'; clear b2_0'
  obtain ⟨c2_0, f2_0, l2_0, e2_0, k2_0⟩ := Blk.facts b2_0
  go_wp2
  go_loopg [9, 10] ls.length (fun G s9 i wr => NURel w1 w1.heap.size A1 c1 ls tt G s9 i wr)
  case atStart => exact ⟨0, by omega, by omega, rfl, rfl, by (repeat' (first | (with_reducible exact b2_0) | (with_reducible refine' Blk.alloc ?_ _) | (with_reducible refine' Blk.drew ?_) | (with_reducible refine' Blk.drewN ?_ _) | (with_reducible refine' Blk.put ?_ ?_) | (with_reducible refine' Blk.far ?_ ?_ _) | exact b2_0 | exact rfl)) <;> (first | omega | (simp <;> omega)), by (repeat' (first | (with_reducible exact K3) | (with_reducible refine Below.setCell ?_ ?_ _) | (with_reducible refine Below.alloc ?_ ?_ _) | (with_reducible refine Below.drew ?_) | (with_reducible refine below_drewN ?_ _))) <;> (first | omega | (simp <;> omega))⟩
  case round =>
    obtain ⟨q, hq, rfl, rfl, rfl, b0, KR⟩ := hrel
    clear K3 b2_0 c2_0 f2_0 l2_0 e2_0 k2_0
    have ZR := KR.size
    by_cases hlt : q < ls.length
    obtain ⟨c0, f0, l0, e0, k0⟩ := Blk.facts b0
    · have gk : decide ((q : Int) < (ls.length : Int)) = true := decide_eq_true (by omega)
      have wq : IntKind.i64.wrap ((q : Int) + 1) = ((q + 1 : Nat) : Int) := by have := HT.out.2.1; rw [IntWalk.i64_in _ (by omega)]; omega
      have hzq := HT.out.2.2.2.2.2 (ls.getD q (0, 0)) (by rw [List.getD_eq_getElem?_getD, List.getElem?_eq_getElem hlt]; exact List.getElem_mem _)
      have hoq := HT.out.1.off (i := q) (by omega)
      obtain ⟨x1, x2, x3, x4⟩ := win_len (first := 10) (zs := ls) q
      have x5 : wsLo ls q = ((ls.getD q (0, 0)).1 - 43200) * 1048576 := rfl
      have W1 := Lib.hid (WD.out q hlt); have W2 := Lib.hid (SL.out q hlt (by omega) (by omega)); have W3 := Lib.hid (SH.out q hlt (by omega) (by omega))
      have AN := Lib.hid (show anyW 10 ls tt (q + 1) = (anyW 10 ls tt q || (decide (wiLo 10 ls q ≤ tt) && decide (tt < wiHi ls q))) from rfl)
      clear x1 x2 x3 x4 x5 hzq hoq
      generalize anyW 10 ls tt q = aw at *
      generalize wiLo 10 ls q = il at *
      generalize wiHi ls q = ih at *
      generalize wsLo ls q = sl at *
      generalize wsHi ls q = sh at *
      go_wp2_with fail
      refine (W1.out _ (by (repeat' (first | (with_reducible exact KR) | (with_reducible refine Below.setCell ?_ ?_ _) | (with_reducible refine Below.alloc ?_ ?_ _) | (with_reducible refine Below.drew ?_) | (with_reducible refine below_drewN ?_ _))) <;> (first | omega | (simp <;> omega)))).mono ?_
      rintro e w4 ⟨rfl, hb4⟩
      have K4 : Below w1.heap.size w1 w4 := kept_call hb4 (by (repeat' (first | (with_reducible exact KR) | (with_reducible refine Below.setCell ?_ ?_ _) | (with_reducible refine Below.alloc ?_ ?_ _) | (with_reducible refine Below.drew ?_) | (with_reducible refine below_drewN ?_ _))) <;> (first | omega | (simp <;> omega)))
      have Z4 : w1.heap.size ≤ w4.heap.size := K4.size
      have b0' := Blk.keep (g := w1.heap.size) hb4 (by (repeat' (first | (with_reducible refine' Blk.alloc ?_ _) | (with_reducible refine' Blk.drew ?_) | (with_reducible refine' Blk.drewN ?_ _) | (with_reducible refine' Blk.put ?_ ?_) | (with_reducible refine' Blk.far ?_ ?_ _) | exact b0 | exact rfl)) <;> (first | omega | (simp <;> omega)))
      (try simp only [List.setIfInBounds_toArray, List.set_cons_zero, List.set_cons_succ] at b0')
      clear hb4 KR
      clear b0 c0 f0 l0 e0 k0; have b0 := b0'; clear b0'
      obtain ⟨c0, f0, l0, e0, k0⟩ := Blk.facts b0
      go_wp2_with fail
      refine (W2.out _ (by (repeat' (first | (with_reducible exact K4) | (with_reducible refine Below.setCell ?_ ?_ _) | (with_reducible refine Below.alloc ?_ ?_ _) | (with_reducible refine Below.drew ?_) | (with_reducible refine below_drewN ?_ _))) <;> (first | omega | (simp <;> omega)))).mono ?_
      rintro e w5 ⟨rfl, hb5⟩
      have K5 : Below w1.heap.size w1 w5 := kept_call hb5 (by (repeat' (first | (with_reducible exact K4) | (with_reducible refine Below.setCell ?_ ?_ _) | (with_reducible refine Below.alloc ?_ ?_ _) | (with_reducible refine Below.drew ?_) | (with_reducible refine below_drewN ?_ _))) <;> (first | omega | (simp <;> omega)))
      have Z5 : w1.heap.size ≤ w5.heap.size := K5.size
      have b0' := Blk.keep (g := w1.heap.size) hb5 (by (repeat' (first | (with_reducible refine' Blk.alloc ?_ _) | (with_reducible refine' Blk.drew ?_) | (with_reducible refine' Blk.drewN ?_ _) | (with_reducible refine' Blk.put ?_ ?_) | (with_reducible refine' Blk.far ?_ ?_ _) | exact b0 | exact rfl)) <;> (first | omega | (simp <;> omega)))
      (try simp only [List.setIfInBounds_toArray, List.set_cons_zero, List.set_cons_succ] at b0')
      have b5_0 := Blk.keep (g := w4.heap.size) hb5 (by (repeat' (first | ((with_reducible refine' Blk.newE ?_); first | rfl | (simp; done)) | (with_reducible refine' Blk.alloc ?_ _) | (with_reducible refine' Blk.drew ?_) | (with_reducible refine' Blk.drewN ?_ _) | (with_reducible refine' Blk.put ?_ ?_) | (with_reducible refine' Blk.far ?_ ?_ _) | exact rfl)) <;> (first | omega | (simp <;> omega)))
      (try simp only [List.setIfInBounds_toArray, List.set_cons_zero, List.set_cons_succ] at b5_0)
      have b5_1 := Blk.keep (g := w4.heap.size + 1) hb5 (by (repeat' (first | ((with_reducible refine' Blk.newE ?_); first | rfl | (simp; done)) | (with_reducible refine' Blk.alloc ?_ _) | (with_reducible refine' Blk.drew ?_) | (with_reducible refine' Blk.drewN ?_ _) | (with_reducible refine' Blk.put ?_ ?_) | (with_reducible refine' Blk.far ?_ ?_ _) | exact rfl)) <;> (first | omega | (simp <;> omega)))
      (try simp only [List.setIfInBounds_toArray, List.set_cons_zero, List.set_cons_succ] at b5_1)
      clear hb5 K4
      clear b0 c0 f0 l0 e0 k0; have b0 := b0'; clear b0'
      obtain ⟨c0, f0, l0, e0, k0⟩ := Blk.facts b0
      obtain ⟨c5_0, f5_0, l5_0, e5_0, k5_0⟩ := Blk.facts b5_0
      obtain ⟨c5_1, f5_1, l5_1, e5_1, k5_1⟩ := Blk.facts b5_1
      have o5_0 := l5_0
      have o5_1 := l5_1
      go_wp2_with fail
      refine (W3.out _ (by (repeat' (first | (with_reducible exact K5) | (with_reducible refine Below.setCell ?_ ?_ _) | (with_reducible refine Below.alloc ?_ ?_ _) | (with_reducible refine Below.drew ?_) | (with_reducible refine below_drewN ?_ _))) <;> (first | omega | (simp <;> omega)))).mono ?_
      rintro e w6 ⟨rfl, hb6⟩
      have K6 : Below w1.heap.size w1 w6 := kept_call hb6 (by (repeat' (first | (with_reducible exact K5) | (with_reducible refine Below.setCell ?_ ?_ _) | (with_reducible refine Below.alloc ?_ ?_ _) | (with_reducible refine Below.drew ?_) | (with_reducible refine below_drewN ?_ _))) <;> (first | omega | (simp <;> omega)))
      have Z6 : w1.heap.size ≤ w6.heap.size := K6.size
      have b0' := Blk.keep (g := w1.heap.size) hb6 (by (repeat' (first | (with_reducible refine' Blk.alloc ?_ _) | (with_reducible refine' Blk.drew ?_) | (with_reducible refine' Blk.drewN ?_ _) | (with_reducible refine' Blk.put ?_ ?_) | (with_reducible refine' Blk.far ?_ ?_ _) | exact b0 | exact rfl)) <;> (first | omega | (simp <;> omega)))
      (try simp only [List.setIfInBounds_toArray, List.set_cons_zero, List.set_cons_succ] at b0')
      have b5_0' := Blk.keep (g := w4.heap.size) hb6 (by (repeat' (first | (with_reducible refine' Blk.alloc ?_ _) | (with_reducible refine' Blk.drew ?_) | (with_reducible refine' Blk.drewN ?_ _) | (with_reducible refine' Blk.put ?_ ?_) | (with_reducible refine' Blk.far ?_ ?_ _) | exact b5_0 | exact rfl)) <;> (first | omega | (simp <;> omega)))
      (try simp only [List.setIfInBounds_toArray, List.set_cons_zero, List.set_cons_succ] at b5_0')
      have b5_1' := Blk.keep (g := w4.heap.size + 1) hb6 (by (repeat' (first | (with_reducible refine' Blk.alloc ?_ _) | (with_reducible refine' Blk.drew ?_) | (with_reducible refine' Blk.drewN ?_ _) | (with_reducible refine' Blk.put ?_ ?_) | (with_reducible refine' Blk.far ?_ ?_ _) | exact b5_1 | exact rfl)) <;> (first | omega | (simp <;> omega)))
      (try simp only [List.setIfInBounds_toArray, List.set_cons_zero, List.set_cons_succ] at b5_1')
      clear hb6 K5
      clear b0 c0 f0 l0 e0 k0; have b0 := b0'; clear b0'
      clear b5_0 c5_0 f5_0 l5_0 e5_0 k5_0; have b5_0 := b5_0'; clear b5_0'
      clear b5_1 c5_1 f5_1 l5_1 e5_1 k5_1; have b5_1 := b5_1'; clear b5_1'
      obtain ⟨c0, f0, l0, e0, k0⟩ := Blk.facts b0
      obtain ⟨c5_0, f5_0, l5_0, e5_0, k5_0⟩ := Blk.facts b5_0
      obtain ⟨c5_1, f5_1, l5_1, e5_1, k5_1⟩ := Blk.facts b5_1
      cases aw with
      | true =>
        have HA := Lib.hid (show anyW 10 ls tt (q + 1) = true from by rw [AN.out]; simp [*])
        go_wp2
        go_roundg (ls.length - (q + 1))
        case measure => omega
        case rel => exact ⟨q + 1, by omega, by omega, by go_num, by rw [HA.out], by (repeat' (first | (with_reducible exact b0) | (with_reducible refine' Blk.alloc ?_ _) | (with_reducible refine' Blk.drew ?_) | (with_reducible refine' Blk.drewN ?_ _) | (with_reducible refine' Blk.put ?_ ?_) | (with_reducible refine' Blk.far ?_ ?_ _) | exact b0 | exact rfl)) <;> (first | omega | (simp <;> omega)), by (repeat' (first | (with_reducible exact K6) | (with_reducible refine Below.setCell ?_ ?_ _) | (with_reducible refine Below.alloc ?_ ?_ _) | (with_reducible refine Below.drew ?_) | (with_reducible refine below_drewN ?_ _))) <;> (first | omega | (simp <;> omega))⟩
      | false =>
        by_cases k1 : il ≤ tt
        · have d1 : decide (il ≤ tt) = true := decide_eq_true k1
          by_cases k2 : tt < ih
          · have d2 : decide (tt < ih) = true := decide_eq_true k2
            have HA := Lib.hid (show anyW 10 ls tt (q + 1) = true from by rw [AN.out]; simp [*])
            go_wp2
            go_roundg (ls.length - (q + 1))
            case measure => omega
            case rel => exact ⟨q + 1, by omega, by omega, by go_num, by rw [HA.out], by (repeat' (first | (with_reducible exact b0) | (with_reducible refine' Blk.alloc ?_ _) | (with_reducible refine' Blk.drew ?_) | (with_reducible refine' Blk.drewN ?_ _) | (with_reducible refine' Blk.put ?_ ?_) | (with_reducible refine' Blk.far ?_ ?_ _) | exact b0 | exact rfl)) <;> (first | omega | (simp <;> omega)), by (repeat' (first | (with_reducible exact K6) | (with_reducible refine Below.setCell ?_ ?_ _) | (with_reducible refine Below.alloc ?_ ?_ _) | (with_reducible refine Below.drew ?_) | (with_reducible refine below_drewN ?_ _))) <;> (first | omega | (simp <;> omega))⟩
          · have d2 : decide (tt < ih) = false := decide_eq_false k2
            have HA := Lib.hid (show anyW 10 ls tt (q + 1) = false from by rw [AN.out]; simp [*])
            go_wp2
            go_roundg (ls.length - (q + 1))
            case measure => omega
            case rel => exact ⟨q + 1, by omega, by omega, by go_num, by rw [HA.out], by (repeat' (first | (with_reducible exact b0) | (with_reducible refine' Blk.alloc ?_ _) | (with_reducible refine' Blk.drew ?_) | (with_reducible refine' Blk.drewN ?_ _) | (with_reducible refine' Blk.put ?_ ?_) | (with_reducible refine' Blk.far ?_ ?_ _) | exact b0 | exact rfl)) <;> (first | omega | (simp <;> omega)), by (repeat' (first | (with_reducible exact K6) | (with_reducible refine Below.setCell ?_ ?_ _) | (with_reducible refine Below.alloc ?_ ?_ _) | (with_reducible refine Below.drew ?_) | (with_reducible refine below_drewN ?_ _))) <;> (first | omega | (simp <;> omega))⟩
        · have d1 : decide (il ≤ tt) = false := decide_eq_false k1
          have HA := Lib.hid (show anyW 10 ls tt (q + 1) = false from by rw [AN.out]; simp [*])
          go_wp2
          go_roundg (ls.length - (q + 1))
          case measure => omega
          case rel => exact ⟨q + 1, by omega, by omega, by go_num, by rw [HA.out], by (repeat' (first | (with_reducible exact b0) | (with_reducible refine' Blk.alloc ?_ _) | (with_reducible refine' Blk.drew ?_) | (with_reducible refine' Blk.drewN ?_ _) | (with_reducible refine' Blk.put ?_ ?_) | (with_reducible refine' Blk.far ?_ ?_ _) | exact b0 | exact rfl)) <;> (first | omega | (simp <;> omega)), by (repeat' (first | (with_reducible exact K6) | (with_reducible refine Below.setCell ?_ ?_ _) | (with_reducible refine Below.alloc ?_ ?_ _) | (with_reducible refine Below.drew ?_) | (with_reducible refine below_drewN ?_ _))) <;> (first | omega | (simp <;> omega))⟩
    · have hqe : q = ls.length := by omega
      rw [hqe]
      clear hqe hlt hq
      have gk : decide ((ls.length : Int) < (ls.length : Int)) = false := decide_eq_false (by omega)
      generalize haw : anyW 10 ls tt ls.length = aw at *
      have HAW := Lib.hid haw; clear haw
      obtain ⟨c0, f0, l0, e0, k0⟩ := Blk.facts b0
      go_wp2_with fail
      refine (UTC.out _ (by (repeat' (first | (with_reducible exact KR) | (with_reducible refine Below.setCell ?_ ?_ _) | (with_reducible refine Below.alloc ?_ ?_ _) | (with_reducible refine Below.drew ?_) | (with_reducible refine below_drewN ?_ _))) <;> (first | omega | (simp <;> omega)))).mono ?_
      rintro e w11 ⟨rfl, hb11⟩
      have K11 : Below w1.heap.size w1 w11 := kept_call hb11 (by (repeat' (first | (with_reducible exact KR) | (with_reducible refine Below.setCell ?_ ?_ _) | (with_reducible refine Below.alloc ?_ ?_ _) | (with_reducible refine Below.drew ?_) | (with_reducible refine below_drewN ?_ _))) <;> (first | omega | (simp <;> omega)))
      have Z11 : w1.heap.size ≤ w11.heap.size := K11.size
      have b0' := Blk.keep (g := w1.heap.size) hb11 (by (repeat' (first | (with_reducible refine' Blk.alloc ?_ _) | (with_reducible refine' Blk.drew ?_) | (with_reducible refine' Blk.drewN ?_ _) | (with_reducible refine' Blk.put ?_ ?_) | (with_reducible refine' Blk.far ?_ ?_ _) | exact b0 | exact rfl)) <;> (first | omega | (simp <;> omega)))
      (try simp only [List.setIfInBounds_toArray, List.set_cons_zero, List.set_cons_succ] at b0')
      clear hb11 KR
      clear b0 c0 f0 l0 e0 k0; have b0 := b0'; clear b0'
      obtain ⟨c0, f0, l0, e0, k0⟩ := Blk.facts b0
      go_wp2_with fail
      refine (known13_any _).mono ?_
      rintro e w12 ⟨rfl, hb12⟩
      have K12 : Below w1.heap.size w1 w12 := kept_call hb12 (by (repeat' (first | (with_reducible exact K11) | (with_reducible refine Below.setCell ?_ ?_ _) | (with_reducible refine Below.alloc ?_ ?_ _) | (with_reducible refine Below.drew ?_) | (with_reducible refine below_drewN ?_ _))) <;> (first | omega | (simp <;> omega)))
      have Z12 : w1.heap.size ≤ w12.heap.size := K12.size
      have b0' := Blk.keep (g := w1.heap.size) hb12 (by (repeat' (first | (with_reducible refine' Blk.alloc ?_ _) | (with_reducible refine' Blk.drew ?_) | (with_reducible refine' Blk.drewN ?_ _) | (with_reducible refine' Blk.put ?_ ?_) | (with_reducible refine' Blk.far ?_ ?_ _) | exact b0 | exact rfl)) <;> (first | omega | (simp <;> omega)))
      (try simp only [List.setIfInBounds_toArray, List.set_cons_zero, List.set_cons_succ] at b0')
      have b12_0 := Blk.keep (g := w11.heap.size) hb12 (by (repeat' (first | ((with_reducible refine' Blk.newE ?_); first | rfl | (simp; done)) | (with_reducible refine' Blk.alloc ?_ _) | (with_reducible refine' Blk.drew ?_) | (with_reducible refine' Blk.drewN ?_ _) | (with_reducible refine' Blk.put ?_ ?_) | (with_reducible refine' Blk.far ?_ ?_ _) | exact rfl)) <;> (first | omega | (simp <;> omega)))
      (try simp only [List.setIfInBounds_toArray, List.set_cons_zero, List.set_cons_succ] at b12_0)
      clear hb12 K11
      clear b0 c0 f0 l0 e0 k0; have b0 := b0'; clear b0'
      obtain ⟨c0, f0, l0, e0, k0⟩ := Blk.facts b0
      obtain ⟨c12_0, f12_0, l12_0, e12_0, k12_0⟩ := Blk.facts b12_0
      have o12_0 := l12_0
      cases aw with
      | true =>
        go_wp2_with fail
        refine (RVV.out _ (by (repeat' (first | (with_reducible exact K12) | (with_reducible refine Below.setCell ?_ ?_ _) | (with_reducible refine Below.alloc ?_ ?_ _) | (with_reducible refine Below.drew ?_) | (with_reducible refine below_drewN ?_ _))) <;> (first | omega | (simp <;> omega)))).mono ?_
        rintro e w13 ⟨rfl, hb13⟩
        have K13 : Below w1.heap.size w1 w13 := kept_call hb13 (by (repeat' (first | (with_reducible exact K12) | (with_reducible refine Below.setCell ?_ ?_ _) | (with_reducible refine Below.alloc ?_ ?_ _) | (with_reducible refine Below.drew ?_) | (with_reducible refine below_drewN ?_ _))) <;> (first | omega | (simp <;> omega)))
        have Z13 : w1.heap.size ≤ w13.heap.size := K13.size
        have b0' := Blk.keep (g := w1.heap.size) hb13 (by (repeat' (first | (with_reducible refine' Blk.alloc ?_ _) | (with_reducible refine' Blk.drew ?_) | (with_reducible refine' Blk.drewN ?_ _) | (with_reducible refine' Blk.put ?_ ?_) | (with_reducible refine' Blk.far ?_ ?_ _) | exact b0 | exact rfl)) <;> (first | omega | (simp <;> omega)))
        (try simp only [List.setIfInBounds_toArray, List.set_cons_zero, List.set_cons_succ] at b0')
        have b12_0' := Blk.keep (g := w11.heap.size) hb13 (by (repeat' (first | (with_reducible refine' Blk.alloc ?_ _) | (with_reducible refine' Blk.drew ?_) | (with_reducible refine' Blk.drewN ?_ _) | (with_reducible refine' Blk.put ?_ ?_) | (with_reducible refine' Blk.far ?_ ?_ _) | exact b12_0 | exact rfl)) <;> (first | omega | (simp <;> omega)))
        (try simp only [List.setIfInBounds_toArray, List.set_cons_zero, List.set_cons_succ] at b12_0')
        clear hb13 K12
        clear b0 c0 f0 l0 e0 k0; have b0 := b0'; clear b0'
        clear b12_0 c12_0 f12_0 l12_0 e12_0 k12_0; have b12_0 := b12_0'; clear b12_0'
        obtain ⟨c0, f0, l0, e0, k0⟩ := Blk.facts b0
        obtain ⟨c12_0, f12_0, l12_0, e12_0, k12_0⟩ := Blk.facts b12_0
        go_wp2
        go_ret
        exact ⟨rfl, (kept_call (by (repeat' (first | (with_reducible exact K13) | (with_reducible refine Below.setCell ?_ ?_ _) | (with_reducible refine Below.alloc ?_ ?_ _) | (with_reducible refine Below.drew ?_) | (with_reducible refine below_drewN ?_ _))) <;> (first | omega | (simp <;> omega))) K1)⟩
      | false =>
        have hd0 := D2.out rfl
        subst hd0
        go_wp2_with fail
        refine (RVV.out _ (by (repeat' (first | (with_reducible exact K12) | (with_reducible refine Below.setCell ?_ ?_ _) | (with_reducible refine Below.alloc ?_ ?_ _) | (with_reducible refine Below.drew ?_) | (with_reducible refine below_drewN ?_ _))) <;> (first | omega | (simp <;> omega)))).mono ?_
        rintro e w13 ⟨rfl, hb13⟩
        have K13 : Below w1.heap.size w1 w13 := kept_call hb13 (by (repeat' (first | (with_reducible exact K12) | (with_reducible refine Below.setCell ?_ ?_ _) | (with_reducible refine Below.alloc ?_ ?_ _) | (with_reducible refine Below.drew ?_) | (with_reducible refine below_drewN ?_ _))) <;> (first | omega | (simp <;> omega)))
        have Z13 : w1.heap.size ≤ w13.heap.size := K13.size
        have b0' := Blk.keep (g := w1.heap.size) hb13 (by (repeat' (first | (with_reducible refine' Blk.alloc ?_ _) | (with_reducible refine' Blk.drew ?_) | (with_reducible refine' Blk.drewN ?_ _) | (with_reducible refine' Blk.put ?_ ?_) | (with_reducible refine' Blk.far ?_ ?_ _) | exact b0 | exact rfl)) <;> (first | omega | (simp <;> omega)))
        (try simp only [List.setIfInBounds_toArray, List.set_cons_zero, List.set_cons_succ] at b0')
        have b12_0' := Blk.keep (g := w11.heap.size) hb13 (by (repeat' (first | (with_reducible refine' Blk.alloc ?_ _) | (with_reducible refine' Blk.drew ?_) | (with_reducible refine' Blk.drewN ?_ _) | (with_reducible refine' Blk.put ?_ ?_) | (with_reducible refine' Blk.far ?_ ?_ _) | exact b12_0 | exact rfl)) <;> (first | omega | (simp <;> omega)))
        (try simp only [List.setIfInBounds_toArray, List.set_cons_zero, List.set_cons_succ] at b12_0')
        clear hb13 K12
        clear b0 c0 f0 l0 e0 k0; have b0 := b0'; clear b0'
        clear b12_0 c12_0 f12_0 l12_0 e12_0 k12_0; have b12_0 := b12_0'; clear b12_0'
        obtain ⟨c0, f0, l0, e0, k0⟩ := Blk.facts b0
        obtain ⟨c12_0, f12_0, l12_0, e12_0, k12_0⟩ := Blk.facts b12_0
        go_wp2
        go_ret
        exact ⟨rfl, (kept_call (by (repeat' (first | (with_reducible exact K13) | (with_reducible refine Below.setCell ?_ ?_ _) | (with_reducible refine Below.alloc ?_ ?_ _) | (with_reducible refine Below.drew ?_) | (with_reducible refine below_drewN ?_ _))) <;> (first | omega | (simp <;> omega))) K1)⟩
theorem nutc_walk (A : Option Addr) (len cap : Nat) (zs : List Int) {w : World} (hA : IntsAt w A len zs) (v : Int) (hv : IntIn v) (W : World) (h : W = w) :
    Walked 8 #[.slice A len cap, .int .i64 v] W := by
  subst h; exact nutc_core A len cap zs v hv W hA
end Go.Proofs.Ytmebkbnildjfhaa
