/- The walk of PoolDraws. -/
import Derived.Test.YtlnboheahbfgfaaDrawY
namespace Go.Proofs.Ytlnboheahbfgfaa
open Go.RowKit
set_option linter.unusedSimpArgs false
set_option linter.unusedVariables false

set_option maxRecDepth 100000 in
set_option maxHeartbeats 4000000 in
theorem draws_walk (SA : Option Addr) (sl sc : Nat) (seed : List Int) (n k v : Int) (hn : IntIn n) (hk : IntIn k) (hv : IntIn v) (w : World) (h : BysAt w SA sl seed) :
    Calls Try.prog 3 #[.slice SA sl sc, .int .i64 n, .int .i64 k, .int .i64 v] w (RB w (.bool true)) := by
  obtain ⟨hn0, hn1⟩ := hn
  obtain ⟨hk0, hk1⟩ := hk
  obtain rfl := h.1
  have HS0 := Lib.hid h; clear h
  by_cases h40 : 40 < seed.length
  · have g0 : decide (40 < (seed.length : Int)) = true := decide_eq_true (by omega)
    have g0n : decide (40 < seed.length) = true := decide_eq_true h40
    have HK := Lib.hid (show Kp w w from Below.refl _ _)
    go_enter Try.func3, Try.ntmps3
    go_wp2_with fail
    refine (known36_any _).mono ?_
    rintro e w1 ⟨rfl, hb1⟩
    have S1 : Below w.heap.size w w1 := kept_call hb1 (by (repeat' (first | (with_reducible exact Below.refl _ _) | (with_reducible refine Below.setCell ?_ ?_ _) | (with_reducible refine Below.alloc ?_ ?_ _) | (with_reducible refine Below.drew ?_) | (with_reducible refine below_drewN ?_ _))) <;> (first | omega | (simp <;> omega)))
    have Z1 := S1.size
    replace HK := Lib.hid (HK.out.below S1)
    clear hb1 S1
    go_wp2
    go_ret
    exact ⟨rfl, HK.out.below (by (repeat' (first | (with_reducible exact Below.refl _ _) | (with_reducible refine Below.setCell ?_ ?_ _) | (with_reducible refine Below.alloc ?_ ?_ _) | (with_reducible refine Below.drew ?_) | (with_reducible refine below_drewN ?_ _))) <;> (first | omega | (simp <;> omega)))⟩
  have g0 : decide (40 < (seed.length : Int)) = false := decide_eq_false (by omega)
  have g0n : decide (40 < seed.length) = false := decide_eq_false h40
  by_cases ha : n ≤ 300
  · have gca : decide (n ≤ 300) = true := decide_eq_true ha
    have HK := Lib.hid (show Kp w w from Below.refl _ _)
    have HS := HS0
    go_enter Try.func3, Try.ntmps3
    obtain ⟨er, her⟩ : ∃ er, drE (seed).length (n) (k) = er := ⟨_, rfl⟩
    obtain ⟨dl, hdl⟩ : ∃ dl, drL (seed) (n) (k) = dl := ⟨_, rfl⟩
    have hdll : dl.length ≤ 32 := hdl ▸ drL_le _ _ _
    have R1 := Lib.hid (fun W h => her ▸ hdl ▸ odraw_any (SA) seed.length (sc) (seed) (n) (k) ⟨hn0, hn1⟩ ⟨hk0, hk1⟩ W h)
    have R2 := Lib.hid (fun W h => her ▸ hdl ▸ rdraw_any (SA) seed.length (sc) (seed) (n) (k) ⟨hn0, hn1⟩ ⟨hk0, hk1⟩ W h)
    clear her hdl
    go_wp2_with fail
    refine (R1.out _ (HS.out.below (by (repeat' (first | (with_reducible exact Below.refl _ _) | (with_reducible refine Below.setCell ?_ ?_ _) | (with_reducible refine Below.alloc ?_ ?_ _) | (with_reducible refine Below.drew ?_) | (with_reducible refine below_drewN ?_ _))) <;> (first | omega | (simp <;> omega))))).mono ?_
    rintro e w1 ⟨A1, d1, rfl, -, -, hn1', hb1⟩
    have S1 : Below w.heap.size w w1 := kept_call hb1 (by (repeat' (first | (with_reducible exact Below.refl _ _) | (with_reducible refine Below.setCell ?_ ?_ _) | (with_reducible refine Below.alloc ?_ ?_ _) | (with_reducible refine Below.drew ?_) | (with_reducible refine below_drewN ?_ _))) <;> (first | omega | (simp <;> omega)))
    have Z1 := S1.size
    have HN1 := Lib.hid (hn1')
    replace HK := Lib.hid (HK.out.below S1)
    replace HS := Lib.hid (HS.out.below S1)
    clear hb1 S1
    clear hn1'
    go_wp2_with fail
    refine (R2.out _ (HS.out.below (by (repeat' (first | (with_reducible exact Below.refl _ _) | (with_reducible refine Below.setCell ?_ ?_ _) | (with_reducible refine Below.alloc ?_ ?_ _) | (with_reducible refine Below.drew ?_) | (with_reducible refine below_drewN ?_ _))) <;> (first | omega | (simp <;> omega))))).mono ?_
    rintro e w2 ⟨A2, d2, rfl, -, -, hn2', hb2⟩
    have S2 : Below w1.heap.size w1 w2 := kept_call hb2 (by (repeat' (first | (with_reducible exact Below.refl _ _) | (with_reducible refine Below.setCell ?_ ?_ _) | (with_reducible refine Below.alloc ?_ ?_ _) | (with_reducible refine Below.drew ?_) | (with_reducible refine below_drewN ?_ _))) <;> (first | omega | (simp <;> omega)))
    have Z2 := S2.size
    have HN2 := Lib.hid (hn2')
    replace HK := Lib.hid (HK.out.below S2)
    replace HS := Lib.hid (HS.out.below S2)
    replace HN1 := Lib.hid (HN1.out.below S2)
    clear hb2 S2
    clear hn2'
    go_wp2_with fail
    refine (nsame_yes _ _ _ _ dl (by omega) _ rfl _ (HN1.out.below (by (repeat' (first | (with_reducible exact Below.refl _ _) | (with_reducible refine Below.setCell ?_ ?_ _) | (with_reducible refine Below.alloc ?_ ?_ _) | (with_reducible refine Below.drew ?_) | (with_reducible refine below_drewN ?_ _))) <;> (first | omega | (simp <;> omega)))) (HN2.out.below (by (repeat' (first | (with_reducible exact Below.refl _ _) | (with_reducible refine Below.setCell ?_ ?_ _) | (with_reducible refine Below.alloc ?_ ?_ _) | (with_reducible refine Below.drew ?_) | (with_reducible refine below_drewN ?_ _))) <;> (first | omega | (simp <;> omega))))).mono ?_
    rintro e w3 ⟨rfl, hb3⟩
    have S3 : Below w2.heap.size w2 w3 := kept_call hb3 (by (repeat' (first | (with_reducible exact Below.refl _ _) | (with_reducible refine Below.setCell ?_ ?_ _) | (with_reducible refine Below.alloc ?_ ?_ _) | (with_reducible refine Below.drew ?_) | (with_reducible refine below_drewN ?_ _))) <;> (first | omega | (simp <;> omega)))
    have Z3 := S3.size
    replace HK := Lib.hid (HK.out.below S3)
    replace HS := Lib.hid (HS.out.below S3)
    replace HN1 := Lib.hid (HN1.out.below S3)
    replace HN2 := Lib.hid (HN2.out.below S3)
    clear hb3 S3
    clear R1 R2 HN1 HN2 HS hdll
    go_wp2_with fail
    refine (random_any v _).mono ?_
    rintro e w4 ⟨g1, c1, rfl, hc1, hg1, hl1, hat1, hb4⟩
    have S4 : Below w3.heap.size w3 w4 := kept_call hb4 (by (repeat' (first | (with_reducible exact Below.refl _ _) | (with_reducible refine Below.setCell ?_ ?_ _) | (with_reducible refine Below.alloc ?_ ?_ _) | (with_reducible refine Below.drew ?_) | (with_reducible refine below_drewN ?_ _))) <;> (first | omega | (simp <;> omega)))
    have Z4 := S4.size
    have HSD := Lib.hid (rand_bys hat1)
    replace HK := Lib.hid (HK.out.below S4)
    clear hb4 S4
    clear hat1
    obtain ⟨er, her⟩ : ∃ er, drE (randS v).length (n % 300) (k % 35) = er := ⟨_, rfl⟩
    obtain ⟨dl, hdl⟩ : ∃ dl, drL (randS v) (n % 300) (k % 35) = dl := ⟨_, rfl⟩
    have hdll : dl.length ≤ 32 := hdl ▸ drL_le _ _ _
    have R1 := Lib.hid (fun W h => her ▸ hdl ▸ odraw_any (some ⟨g1, 0, none⟩) 32 (c1) (randS v) (n % 300) (k % 35) (by omega) (by omega) W h)
    have R2 := Lib.hid (fun W h => her ▸ hdl ▸ rdraw_any (some ⟨g1, 0, none⟩) 32 (c1) (randS v) (n % 300) (k % 35) (by omega) (by omega) W h)
    clear her hdl
    go_wp2_with fail
    refine (within_any n 300 _ (by omega) (by omega)).mono ?_
    rintro e w5 ⟨rfl, rfl⟩
    go_wp2_with fail
    refine (within_any k 35 _ (by omega) (by omega)).mono ?_
    rintro e w5 ⟨rfl, rfl⟩
    go_wp2_with fail
    refine (R1.out _ (HSD.out.below (by (repeat' (first | (with_reducible exact Below.refl _ _) | (with_reducible refine Below.setCell ?_ ?_ _) | (with_reducible refine Below.alloc ?_ ?_ _) | (with_reducible refine Below.drew ?_) | (with_reducible refine below_drewN ?_ _))) <;> (first | omega | (simp <;> omega))))).mono ?_
    rintro e w5 ⟨A1, d1, rfl, -, -, hn1, hb5⟩
    have S5 : Below w4.heap.size w4 w5 := kept_call hb5 (by (repeat' (first | (with_reducible exact Below.refl _ _) | (with_reducible refine Below.setCell ?_ ?_ _) | (with_reducible refine Below.alloc ?_ ?_ _) | (with_reducible refine Below.drew ?_) | (with_reducible refine below_drewN ?_ _))) <;> (first | omega | (simp <;> omega)))
    have Z5 := S5.size
    have HN1 := Lib.hid (hn1)
    replace HK := Lib.hid (HK.out.below S5)
    replace HSD := Lib.hid (HSD.out.below S5)
    clear hb5 S5
    clear hn1
    go_wp2_with fail
    refine (within_any n 300 _ (by omega) (by omega)).mono ?_
    rintro e w6 ⟨rfl, rfl⟩
    go_wp2_with fail
    refine (within_any k 35 _ (by omega) (by omega)).mono ?_
    rintro e w6 ⟨rfl, rfl⟩
    go_wp2_with fail
    refine (R2.out _ (HSD.out.below (by (repeat' (first | (with_reducible exact Below.refl _ _) | (with_reducible refine Below.setCell ?_ ?_ _) | (with_reducible refine Below.alloc ?_ ?_ _) | (with_reducible refine Below.drew ?_) | (with_reducible refine below_drewN ?_ _))) <;> (first | omega | (simp <;> omega))))).mono ?_
    rintro e w6 ⟨A2, d2, rfl, -, -, hn2, hb6⟩
    have S6 : Below w5.heap.size w5 w6 := kept_call hb6 (by (repeat' (first | (with_reducible exact Below.refl _ _) | (with_reducible refine Below.setCell ?_ ?_ _) | (with_reducible refine Below.alloc ?_ ?_ _) | (with_reducible refine Below.drew ?_) | (with_reducible refine below_drewN ?_ _))) <;> (first | omega | (simp <;> omega)))
    have Z6 := S6.size
    have HN2 := Lib.hid (hn2)
    replace HK := Lib.hid (HK.out.below S6)
    replace HSD := Lib.hid (HSD.out.below S6)
    replace HN1 := Lib.hid (HN1.out.below S6)
    clear hb6 S6
    clear hn2
    go_wp2_with fail
    refine (known36_any _).mono ?_
    rintro e w7 ⟨rfl, hb7⟩
    have S7 : Below w6.heap.size w6 w7 := kept_call hb7 (by (repeat' (first | (with_reducible exact Below.refl _ _) | (with_reducible refine Below.setCell ?_ ?_ _) | (with_reducible refine Below.alloc ?_ ?_ _) | (with_reducible refine Below.drew ?_) | (with_reducible refine below_drewN ?_ _))) <;> (first | omega | (simp <;> omega)))
    have Z7 := S7.size
    replace HK := Lib.hid (HK.out.below S7)
    replace HSD := Lib.hid (HSD.out.below S7)
    replace HN1 := Lib.hid (HN1.out.below S7)
    replace HN2 := Lib.hid (HN2.out.below S7)
    clear hb7 S7
    go_wp2_with fail
    refine (nsame_yes _ _ _ _ dl (by omega) _ rfl _ (HN1.out.below (by (repeat' (first | (with_reducible exact Below.refl _ _) | (with_reducible refine Below.setCell ?_ ?_ _) | (with_reducible refine Below.alloc ?_ ?_ _) | (with_reducible refine Below.drew ?_) | (with_reducible refine below_drewN ?_ _))) <;> (first | omega | (simp <;> omega)))) (HN2.out.below (by (repeat' (first | (with_reducible exact Below.refl _ _) | (with_reducible refine Below.setCell ?_ ?_ _) | (with_reducible refine Below.alloc ?_ ?_ _) | (with_reducible refine Below.drew ?_) | (with_reducible refine below_drewN ?_ _))) <;> (first | omega | (simp <;> omega))))).mono ?_
    rintro e w8 ⟨rfl, hb8⟩
    have S8 : Below w7.heap.size w7 w8 := kept_call hb8 (by (repeat' (first | (with_reducible exact Below.refl _ _) | (with_reducible refine Below.setCell ?_ ?_ _) | (with_reducible refine Below.alloc ?_ ?_ _) | (with_reducible refine Below.drew ?_) | (with_reducible refine below_drewN ?_ _))) <;> (first | omega | (simp <;> omega)))
    have Z8 := S8.size
    replace HK := Lib.hid (HK.out.below S8)
    replace HSD := Lib.hid (HSD.out.below S8)
    replace HN1 := Lib.hid (HN1.out.below S8)
    replace HN2 := Lib.hid (HN2.out.below S8)
    clear hb8 S8
    go_wp2
    go_ret
    exact ⟨rfl, HK.out.below (by (repeat' (first | (with_reducible exact Below.refl _ _) | (with_reducible refine Below.setCell ?_ ?_ _) | (with_reducible refine Below.alloc ?_ ?_ _) | (with_reducible refine Below.drew ?_) | (with_reducible refine below_drewN ?_ _))) <;> (first | omega | (simp <;> omega)))⟩
  have gca : decide (n ≤ 300) = false := decide_eq_false ha
  by_cases hb : 4096 < n
  · have gcb : decide (4096 < n) = true := decide_eq_true hb
    have HK := Lib.hid (show Kp w w from Below.refl _ _)
    have HS := HS0
    go_enter Try.func3, Try.ntmps3
    obtain ⟨er, her⟩ : ∃ er, drE (seed).length (n) (k) = er := ⟨_, rfl⟩
    obtain ⟨dl, hdl⟩ : ∃ dl, drL (seed) (n) (k) = dl := ⟨_, rfl⟩
    have hdll : dl.length ≤ 32 := hdl ▸ drL_le _ _ _
    have R1 := Lib.hid (fun W h => her ▸ hdl ▸ odraw_any (SA) seed.length (sc) (seed) (n) (k) ⟨hn0, hn1⟩ ⟨hk0, hk1⟩ W h)
    have R2 := Lib.hid (fun W h => her ▸ hdl ▸ rdraw_any (SA) seed.length (sc) (seed) (n) (k) ⟨hn0, hn1⟩ ⟨hk0, hk1⟩ W h)
    clear her hdl
    go_wp2_with fail
    refine (R1.out _ (HS.out.below (by (repeat' (first | (with_reducible exact Below.refl _ _) | (with_reducible refine Below.setCell ?_ ?_ _) | (with_reducible refine Below.alloc ?_ ?_ _) | (with_reducible refine Below.drew ?_) | (with_reducible refine below_drewN ?_ _))) <;> (first | omega | (simp <;> omega))))).mono ?_
    rintro e w1 ⟨A1, d1, rfl, -, -, hn1', hb1⟩
    have S1 : Below w.heap.size w w1 := kept_call hb1 (by (repeat' (first | (with_reducible exact Below.refl _ _) | (with_reducible refine Below.setCell ?_ ?_ _) | (with_reducible refine Below.alloc ?_ ?_ _) | (with_reducible refine Below.drew ?_) | (with_reducible refine below_drewN ?_ _))) <;> (first | omega | (simp <;> omega)))
    have Z1 := S1.size
    have HN1 := Lib.hid (hn1')
    replace HK := Lib.hid (HK.out.below S1)
    replace HS := Lib.hid (HS.out.below S1)
    clear hb1 S1
    clear hn1'
    go_wp2_with fail
    refine (R2.out _ (HS.out.below (by (repeat' (first | (with_reducible exact Below.refl _ _) | (with_reducible refine Below.setCell ?_ ?_ _) | (with_reducible refine Below.alloc ?_ ?_ _) | (with_reducible refine Below.drew ?_) | (with_reducible refine below_drewN ?_ _))) <;> (first | omega | (simp <;> omega))))).mono ?_
    rintro e w2 ⟨A2, d2, rfl, -, -, hn2', hb2⟩
    have S2 : Below w1.heap.size w1 w2 := kept_call hb2 (by (repeat' (first | (with_reducible exact Below.refl _ _) | (with_reducible refine Below.setCell ?_ ?_ _) | (with_reducible refine Below.alloc ?_ ?_ _) | (with_reducible refine Below.drew ?_) | (with_reducible refine below_drewN ?_ _))) <;> (first | omega | (simp <;> omega)))
    have Z2 := S2.size
    have HN2 := Lib.hid (hn2')
    replace HK := Lib.hid (HK.out.below S2)
    replace HS := Lib.hid (HS.out.below S2)
    replace HN1 := Lib.hid (HN1.out.below S2)
    clear hb2 S2
    clear hn2'
    go_wp2_with fail
    refine (nsame_yes _ _ _ _ dl (by omega) _ rfl _ (HN1.out.below (by (repeat' (first | (with_reducible exact Below.refl _ _) | (with_reducible refine Below.setCell ?_ ?_ _) | (with_reducible refine Below.alloc ?_ ?_ _) | (with_reducible refine Below.drew ?_) | (with_reducible refine below_drewN ?_ _))) <;> (first | omega | (simp <;> omega)))) (HN2.out.below (by (repeat' (first | (with_reducible exact Below.refl _ _) | (with_reducible refine Below.setCell ?_ ?_ _) | (with_reducible refine Below.alloc ?_ ?_ _) | (with_reducible refine Below.drew ?_) | (with_reducible refine below_drewN ?_ _))) <;> (first | omega | (simp <;> omega))))).mono ?_
    rintro e w3 ⟨rfl, hb3⟩
    have S3 : Below w2.heap.size w2 w3 := kept_call hb3 (by (repeat' (first | (with_reducible exact Below.refl _ _) | (with_reducible refine Below.setCell ?_ ?_ _) | (with_reducible refine Below.alloc ?_ ?_ _) | (with_reducible refine Below.drew ?_) | (with_reducible refine below_drewN ?_ _))) <;> (first | omega | (simp <;> omega)))
    have Z3 := S3.size
    replace HK := Lib.hid (HK.out.below S3)
    replace HS := Lib.hid (HS.out.below S3)
    replace HN1 := Lib.hid (HN1.out.below S3)
    replace HN2 := Lib.hid (HN2.out.below S3)
    clear hb3 S3
    clear R1 R2 HN1 HN2 HS hdll
    go_wp2_with fail
    refine (random_any v _).mono ?_
    rintro e w4 ⟨g1, c1, rfl, hc1, hg1, hl1, hat1, hb4⟩
    have S4 : Below w3.heap.size w3 w4 := kept_call hb4 (by (repeat' (first | (with_reducible exact Below.refl _ _) | (with_reducible refine Below.setCell ?_ ?_ _) | (with_reducible refine Below.alloc ?_ ?_ _) | (with_reducible refine Below.drew ?_) | (with_reducible refine below_drewN ?_ _))) <;> (first | omega | (simp <;> omega)))
    have Z4 := S4.size
    have HSD := Lib.hid (rand_bys hat1)
    replace HK := Lib.hid (HK.out.below S4)
    clear hb4 S4
    clear hat1
    obtain ⟨er, her⟩ : ∃ er, drE (randS v).length (n % 300) (k % 35) = er := ⟨_, rfl⟩
    obtain ⟨dl, hdl⟩ : ∃ dl, drL (randS v) (n % 300) (k % 35) = dl := ⟨_, rfl⟩
    have hdll : dl.length ≤ 32 := hdl ▸ drL_le _ _ _
    have R1 := Lib.hid (fun W h => her ▸ hdl ▸ odraw_any (some ⟨g1, 0, none⟩) 32 (c1) (randS v) (n % 300) (k % 35) (by omega) (by omega) W h)
    have R2 := Lib.hid (fun W h => her ▸ hdl ▸ rdraw_any (some ⟨g1, 0, none⟩) 32 (c1) (randS v) (n % 300) (k % 35) (by omega) (by omega) W h)
    clear her hdl
    go_wp2_with fail
    refine (within_any n 300 _ (by omega) (by omega)).mono ?_
    rintro e w5 ⟨rfl, rfl⟩
    go_wp2_with fail
    refine (within_any k 35 _ (by omega) (by omega)).mono ?_
    rintro e w5 ⟨rfl, rfl⟩
    go_wp2_with fail
    refine (R1.out _ (HSD.out.below (by (repeat' (first | (with_reducible exact Below.refl _ _) | (with_reducible refine Below.setCell ?_ ?_ _) | (with_reducible refine Below.alloc ?_ ?_ _) | (with_reducible refine Below.drew ?_) | (with_reducible refine below_drewN ?_ _))) <;> (first | omega | (simp <;> omega))))).mono ?_
    rintro e w5 ⟨A1, d1, rfl, -, -, hn1, hb5⟩
    have S5 : Below w4.heap.size w4 w5 := kept_call hb5 (by (repeat' (first | (with_reducible exact Below.refl _ _) | (with_reducible refine Below.setCell ?_ ?_ _) | (with_reducible refine Below.alloc ?_ ?_ _) | (with_reducible refine Below.drew ?_) | (with_reducible refine below_drewN ?_ _))) <;> (first | omega | (simp <;> omega)))
    have Z5 := S5.size
    have HN1 := Lib.hid (hn1)
    replace HK := Lib.hid (HK.out.below S5)
    replace HSD := Lib.hid (HSD.out.below S5)
    clear hb5 S5
    clear hn1
    go_wp2_with fail
    refine (within_any n 300 _ (by omega) (by omega)).mono ?_
    rintro e w6 ⟨rfl, rfl⟩
    go_wp2_with fail
    refine (within_any k 35 _ (by omega) (by omega)).mono ?_
    rintro e w6 ⟨rfl, rfl⟩
    go_wp2_with fail
    refine (R2.out _ (HSD.out.below (by (repeat' (first | (with_reducible exact Below.refl _ _) | (with_reducible refine Below.setCell ?_ ?_ _) | (with_reducible refine Below.alloc ?_ ?_ _) | (with_reducible refine Below.drew ?_) | (with_reducible refine below_drewN ?_ _))) <;> (first | omega | (simp <;> omega))))).mono ?_
    rintro e w6 ⟨A2, d2, rfl, -, -, hn2, hb6⟩
    have S6 : Below w5.heap.size w5 w6 := kept_call hb6 (by (repeat' (first | (with_reducible exact Below.refl _ _) | (with_reducible refine Below.setCell ?_ ?_ _) | (with_reducible refine Below.alloc ?_ ?_ _) | (with_reducible refine Below.drew ?_) | (with_reducible refine below_drewN ?_ _))) <;> (first | omega | (simp <;> omega)))
    have Z6 := S6.size
    have HN2 := Lib.hid (hn2)
    replace HK := Lib.hid (HK.out.below S6)
    replace HSD := Lib.hid (HSD.out.below S6)
    replace HN1 := Lib.hid (HN1.out.below S6)
    clear hb6 S6
    clear hn2
    go_wp2_with fail
    refine (known36_any _).mono ?_
    rintro e w7 ⟨rfl, hb7⟩
    have S7 : Below w6.heap.size w6 w7 := kept_call hb7 (by (repeat' (first | (with_reducible exact Below.refl _ _) | (with_reducible refine Below.setCell ?_ ?_ _) | (with_reducible refine Below.alloc ?_ ?_ _) | (with_reducible refine Below.drew ?_) | (with_reducible refine below_drewN ?_ _))) <;> (first | omega | (simp <;> omega)))
    have Z7 := S7.size
    replace HK := Lib.hid (HK.out.below S7)
    replace HSD := Lib.hid (HSD.out.below S7)
    replace HN1 := Lib.hid (HN1.out.below S7)
    replace HN2 := Lib.hid (HN2.out.below S7)
    clear hb7 S7
    go_wp2_with fail
    refine (nsame_yes _ _ _ _ dl (by omega) _ rfl _ (HN1.out.below (by (repeat' (first | (with_reducible exact Below.refl _ _) | (with_reducible refine Below.setCell ?_ ?_ _) | (with_reducible refine Below.alloc ?_ ?_ _) | (with_reducible refine Below.drew ?_) | (with_reducible refine below_drewN ?_ _))) <;> (first | omega | (simp <;> omega)))) (HN2.out.below (by (repeat' (first | (with_reducible exact Below.refl _ _) | (with_reducible refine Below.setCell ?_ ?_ _) | (with_reducible refine Below.alloc ?_ ?_ _) | (with_reducible refine Below.drew ?_) | (with_reducible refine below_drewN ?_ _))) <;> (first | omega | (simp <;> omega))))).mono ?_
    rintro e w8 ⟨rfl, hb8⟩
    have S8 : Below w7.heap.size w7 w8 := kept_call hb8 (by (repeat' (first | (with_reducible exact Below.refl _ _) | (with_reducible refine Below.setCell ?_ ?_ _) | (with_reducible refine Below.alloc ?_ ?_ _) | (with_reducible refine Below.drew ?_) | (with_reducible refine below_drewN ?_ _))) <;> (first | omega | (simp <;> omega)))
    have Z8 := S8.size
    replace HK := Lib.hid (HK.out.below S8)
    replace HSD := Lib.hid (HSD.out.below S8)
    replace HN1 := Lib.hid (HN1.out.below S8)
    replace HN2 := Lib.hid (HN2.out.below S8)
    clear hb8 S8
    go_wp2
    go_ret
    exact ⟨rfl, HK.out.below (by (repeat' (first | (with_reducible exact Below.refl _ _) | (with_reducible refine Below.setCell ?_ ?_ _) | (with_reducible refine Below.alloc ?_ ?_ _) | (with_reducible refine Below.drew ?_) | (with_reducible refine below_drewN ?_ _))) <;> (first | omega | (simp <;> omega)))⟩
  have gcb : decide (4096 < n) = false := decide_eq_false hb
  have HK := Lib.hid (show Kp w w from Below.refl _ _)
  have HS := HS0
  go_enter Try.func3, Try.ntmps3
  go_wp2_with fail
  refine (random_any v _).mono ?_
  rintro e w1 ⟨g1, c1, rfl, hc1, hg1, hl1, hat1, hb1⟩
  have S1 : Below w.heap.size w w1 := kept_call hb1 (by (repeat' (first | (with_reducible exact Below.refl _ _) | (with_reducible refine Below.setCell ?_ ?_ _) | (with_reducible refine Below.alloc ?_ ?_ _) | (with_reducible refine Below.drew ?_) | (with_reducible refine below_drewN ?_ _))) <;> (first | omega | (simp <;> omega)))
  have Z1 := S1.size
  have HSD := Lib.hid (rand_bys hat1)
  replace HK := Lib.hid (HK.out.below S1)
  replace HS := Lib.hid (HS.out.below S1)
  clear hb1 S1
  clear hat1
  obtain ⟨er, her⟩ : ∃ er, drE (randS v).length (n % 300) (k % 35) = er := ⟨_, rfl⟩
  obtain ⟨dl, hdl⟩ : ∃ dl, drL (randS v) (n % 300) (k % 35) = dl := ⟨_, rfl⟩
  have hdll : dl.length ≤ 32 := hdl ▸ drL_le _ _ _
  have R1 := Lib.hid (fun W h => her ▸ hdl ▸ odraw_any (some ⟨g1, 0, none⟩) 32 (c1) (randS v) (n % 300) (k % 35) (by omega) (by omega) W h)
  have R2 := Lib.hid (fun W h => her ▸ hdl ▸ rdraw_any (some ⟨g1, 0, none⟩) 32 (c1) (randS v) (n % 300) (k % 35) (by omega) (by omega) W h)
  clear her hdl
  go_wp2_with fail
  refine (within_any n 300 _ (by omega) (by omega)).mono ?_
  rintro e w2 ⟨rfl, rfl⟩
  go_wp2_with fail
  refine (within_any k 35 _ (by omega) (by omega)).mono ?_
  rintro e w2 ⟨rfl, rfl⟩
  go_wp2_with fail
  refine (R1.out _ (HSD.out.below (by (repeat' (first | (with_reducible exact Below.refl _ _) | (with_reducible refine Below.setCell ?_ ?_ _) | (with_reducible refine Below.alloc ?_ ?_ _) | (with_reducible refine Below.drew ?_) | (with_reducible refine below_drewN ?_ _))) <;> (first | omega | (simp <;> omega))))).mono ?_
  rintro e w2 ⟨A1, d1, rfl, -, -, hn1, hb2⟩
  have S2 : Below w1.heap.size w1 w2 := kept_call hb2 (by (repeat' (first | (with_reducible exact Below.refl _ _) | (with_reducible refine Below.setCell ?_ ?_ _) | (with_reducible refine Below.alloc ?_ ?_ _) | (with_reducible refine Below.drew ?_) | (with_reducible refine below_drewN ?_ _))) <;> (first | omega | (simp <;> omega)))
  have Z2 := S2.size
  have HN1 := Lib.hid (hn1)
  replace HK := Lib.hid (HK.out.below S2)
  replace HSD := Lib.hid (HSD.out.below S2)
  clear hb2 S2
  clear hn1
  go_wp2_with fail
  refine (within_any n 300 _ (by omega) (by omega)).mono ?_
  rintro e w3 ⟨rfl, rfl⟩
  go_wp2_with fail
  refine (within_any k 35 _ (by omega) (by omega)).mono ?_
  rintro e w3 ⟨rfl, rfl⟩
  go_wp2_with fail
  refine (R2.out _ (HSD.out.below (by (repeat' (first | (with_reducible exact Below.refl _ _) | (with_reducible refine Below.setCell ?_ ?_ _) | (with_reducible refine Below.alloc ?_ ?_ _) | (with_reducible refine Below.drew ?_) | (with_reducible refine below_drewN ?_ _))) <;> (first | omega | (simp <;> omega))))).mono ?_
  rintro e w3 ⟨A2, d2, rfl, -, -, hn2, hb3⟩
  have S3 : Below w2.heap.size w2 w3 := kept_call hb3 (by (repeat' (first | (with_reducible exact Below.refl _ _) | (with_reducible refine Below.setCell ?_ ?_ _) | (with_reducible refine Below.alloc ?_ ?_ _) | (with_reducible refine Below.drew ?_) | (with_reducible refine below_drewN ?_ _))) <;> (first | omega | (simp <;> omega)))
  have Z3 := S3.size
  have HN2 := Lib.hid (hn2)
  replace HK := Lib.hid (HK.out.below S3)
  replace HSD := Lib.hid (HSD.out.below S3)
  replace HN1 := Lib.hid (HN1.out.below S3)
  clear hb3 S3
  clear hn2
  go_wp2_with fail
  refine (known36_any _).mono ?_
  rintro e w4 ⟨rfl, hb4⟩
  have S4 : Below w3.heap.size w3 w4 := kept_call hb4 (by (repeat' (first | (with_reducible exact Below.refl _ _) | (with_reducible refine Below.setCell ?_ ?_ _) | (with_reducible refine Below.alloc ?_ ?_ _) | (with_reducible refine Below.drew ?_) | (with_reducible refine below_drewN ?_ _))) <;> (first | omega | (simp <;> omega)))
  have Z4 := S4.size
  replace HK := Lib.hid (HK.out.below S4)
  replace HSD := Lib.hid (HSD.out.below S4)
  replace HN1 := Lib.hid (HN1.out.below S4)
  replace HN2 := Lib.hid (HN2.out.below S4)
  clear hb4 S4
  go_wp2_with fail
  refine (nsame_yes _ _ _ _ dl (by omega) _ rfl _ (HN1.out.below (by (repeat' (first | (with_reducible exact Below.refl _ _) | (with_reducible refine Below.setCell ?_ ?_ _) | (with_reducible refine Below.alloc ?_ ?_ _) | (with_reducible refine Below.drew ?_) | (with_reducible refine below_drewN ?_ _))) <;> (first | omega | (simp <;> omega)))) (HN2.out.below (by (repeat' (first | (with_reducible exact Below.refl _ _) | (with_reducible refine Below.setCell ?_ ?_ _) | (with_reducible refine Below.alloc ?_ ?_ _) | (with_reducible refine Below.drew ?_) | (with_reducible refine below_drewN ?_ _))) <;> (first | omega | (simp <;> omega))))).mono ?_
  rintro e w5 ⟨rfl, hb5⟩
  have S5 : Below w4.heap.size w4 w5 := kept_call hb5 (by (repeat' (first | (with_reducible exact Below.refl _ _) | (with_reducible refine Below.setCell ?_ ?_ _) | (with_reducible refine Below.alloc ?_ ?_ _) | (with_reducible refine Below.drew ?_) | (with_reducible refine below_drewN ?_ _))) <;> (first | omega | (simp <;> omega)))
  have Z5 := S5.size
  replace HK := Lib.hid (HK.out.below S5)
  replace HSD := Lib.hid (HSD.out.below S5)
  replace HN1 := Lib.hid (HN1.out.below S5)
  replace HN2 := Lib.hid (HN2.out.below S5)
  clear hb5 S5
  go_wp2
  go_ret
  exact ⟨rfl, HK.out.below (by (repeat' (first | (with_reducible exact Below.refl _ _) | (with_reducible refine Below.setCell ?_ ?_ _) | (with_reducible refine Below.alloc ?_ ?_ _) | (with_reducible refine Below.drew ?_) | (with_reducible refine below_drewN ?_ _))) <;> (first | omega | (simp <;> omega)))⟩
theorem draws_row (A : Option Addr) (len cap : Nat) (bs : List Int) {w : World} (h : BysAt w A len bs) (n : Int) (hn : IntIn n) (k : Int) (hk : IntIn k) (v : Int) (hv : IntIn v) (W : World) (hw : W = w) :
    Walked 3 #[.slice A len cap, .int .i64 n, .int .i64 k, .int .i64 v] W := by
  subst hw; exact draws_walk A len cap bs n k v hn hk hv W h
end Go.Proofs.Ytlnboheahbfgfaa
