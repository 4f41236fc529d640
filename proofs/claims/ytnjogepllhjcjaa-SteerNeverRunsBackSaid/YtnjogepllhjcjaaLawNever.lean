/- The walk of the law SteerNeverRunsBack. -/
import Derived.Test.YtnjogepllhjcjaaSteerF
import Derived.Test.YtnjogepllhjcjaaKitT
import Derived.Test.YtnjogepllhjcjaaR11
import Derived.Test.YtnjogepllhjcjaaLawKeeps
import Derived.Deep.DeepCutAuto
namespace Go.Proofs.Ytnjogepllhjcjaa
open Go.RowKit

theorem never_plain {M R at_ shown u lo hi : Int} (m0 : 0 ≤ M) (m1 : M ≤ 1000) (hl : lo ≤ hi) (hh : ¬ hi < shown) :
    shown ≤ rdShown M R true at_ shown u lo hi ∧ lo ≤ rdShown M R true at_ shown u lo hi ∧ rdShown M R true at_ shown u lo hi ≤ hi := by
  obtain ⟨s1, s2⟩ := share_in hl m0 m1
  unfold rdShown
  rw [if_neg (by simp), if_neg hh]
  generalize lo + (hi - lo) * M / 1000 = x at *
  generalize rdMost R at_ shown u = y
  omega
/-- The head of the loop. -/
def NRel (w : World) (B g : Nat) (M R : Int) (a i : Value) (wr : World) : Prop := ∃ (k : Nat) (t : Int) (set held : Bool) (at_ shown : Int), k ≤ 15 ∧ i = .int .i64 k ∧ a = .int .i64 t ∧ 0 ≤ t ∧ t ≤ 50 * k ∧ 0 ≤ at_ ∧ at_ ≤ t ∧ -1000 ≤ shown ∧ shown ≤ 1000 ∧
  Blk wr g 33 #[.int .i64 M, .int .i64 R, .bool set, .bool held, .int .i64 at_, .int .i64 shown] ∧ TapeAt wr B ∧ Below w.heap.size w wr

set_option maxRecDepth 100000 in
set_option maxHeartbeats 8000000 in
theorem never_core (A : Option Addr) (len cap : Nat) (zs : List Int) (aim : Int) (w : World) (hA : IntsAt w A len zs) :
    Calls Try.prog 7 #[.slice A len cap, .int .i64 aim] w (RB w (.bool true)) := by
  have H := Lib.hid hA; clear hA
  obtain ⟨M, hM⟩ : ∃ M, aim % 1001 = M := ⟨_, rfl⟩
  have M0 : 0 ≤ M ∧ M ≤ 1000 := by omega
  have HM := Lib.hid hM; clear hM
  go_enter Try.func7, Try.ntmps7
  go_wp2_with fail
  refine (new_any A len cap zs _ H.out).mono ?_
  rintro e w1 ⟨rfl, ht1, hb1⟩
  have K1 : Below w.heap.size w w1 := kept_call hb1 (by (repeat' (first | (with_reducible exact Below.refl _ _) | (with_reducible refine Below.setCell ?_ ?_ _) | (with_reducible refine Below.alloc ?_ ?_ _) | (with_reducible refine Below.drew ?_) | (with_reducible refine below_drewN ?_ _))) <;> (first | omega | (simp <;> omega)))
  have Z1 : w.heap.size ≤ w1.heap.size := K1.size
  clear hb1
  have T1 := ht1.lt
  have HT := Lib.hid ht1; clear ht1
  have HB : w.heap.size ≤ w.heap.size := Nat.le_refl _
  go_upto_region 2 with fail
  go_cut [6] (fun s6 wx => ∃ (g : Nat) (R : Int), s6 = .pointer (some ⟨g, 0, none⟩) ∧ 0 ≤ R ∧ R ≤ 1000000000 ∧ w.heap.size < g ∧ Blk wx g 33 #[.int .i64 M, .int .i64 R, .bool false, .bool false, .int .i64 0, .int .i64 0] ∧ TapeAt wx w.heap.size ∧ Below w.heap.size w wx)
  case first =>
    go_wp2_with fail
    refine (within_any _ _ _ (by omega) (by omega)).mono ?_
    rintro e wq1 ⟨rfl, rfl⟩
    rw [HM.out]
    go_wp2_with fail
    refine (int_any _ _ _ (by (repeat' (first | (with_reducible exact HT.out) | (with_reducible refine' TapeAt.alloc ?_ _) | (with_reducible refine' TapeAt.drew ?_) | (with_reducible refine' TapeAt.drewN ?_ _) | (with_reducible refine' TapeAt.set ?_ ?_ _))) <;> (first | omega | (simp <;> omega))) (by omega) (by omega)).mono ?_
    rintro e w2 ⟨v, rfl, v0, v1, ht2, hg2⟩
    have K2 : Below w.heap.size w w2 := below_grown2 (by (repeat' (first | (with_reducible exact K1) | (with_reducible refine Below.setCell ?_ ?_ _) | (with_reducible refine Below.alloc ?_ ?_ _) | (with_reducible refine Below.drew ?_) | (with_reducible refine below_drewN ?_ _))) <;> (first | omega | (simp <;> omega))) hg2 (by first | omega | (simp <;> omega))
    have Z2 : w.heap.size ≤ w2.heap.size := K2.size
    have b2_0 := Blk.keepG (g := w1.heap.size) hg2 (by (repeat' (first | (with_reducible exact Blk.new _ _ _) | (with_reducible refine' Blk.alloc ?_ _) | (with_reducible refine' Blk.drew ?_) | (with_reducible refine' Blk.drewN ?_ _) | (with_reducible refine' Blk.put ?_ ?_) | (with_reducible refine' Blk.far ?_ ?_ _) | exact rfl)) <;> (first | omega | (simp <;> omega))) (by first | omega | (simp <;> omega))
    (try simp only [List.setIfInBounds_toArray, List.set_cons_zero, List.set_cons_succ] at b2_0)
    clear HT; have T2 := ht2.lt; have HT := Lib.hid ht2; clear ht2
    clear hg2 K1
    obtain ⟨c2_0, f2_0, l2_0, e2_0, k2_0⟩ := Blk.facts b2_0
    obtain rfl | rfl | rfl : v = 0 ∨ v = 1 ∨ v = 2 := by omega
    · go_upto_region 3 with fail
      go_meet
      exact ⟨w2.heap.size, 0, rfl, by omega, by omega, by omega, by (repeat' (first | (with_reducible exact Blk.new _ _ _) | (with_reducible refine' Blk.alloc ?_ _) | (with_reducible refine' Blk.drew ?_) | (with_reducible refine' Blk.drewN ?_ _) | (with_reducible refine' Blk.put ?_ ?_) | (with_reducible refine' Blk.far ?_ ?_ _) | exact rfl)) <;> (first | omega | (simp <;> omega)), (by (repeat' (first | (with_reducible exact HT.out) | (with_reducible refine' TapeAt.alloc ?_ _) | (with_reducible refine' TapeAt.drew ?_) | (with_reducible refine' TapeAt.drewN ?_ _) | (with_reducible refine' TapeAt.set ?_ ?_ _))) <;> (first | omega | (simp <;> omega))), by (repeat' (first | (with_reducible exact K2) | (with_reducible refine Below.setCell ?_ ?_ _) | (with_reducible refine Below.alloc ?_ ?_ _) | (with_reducible refine Below.drew ?_) | (with_reducible refine below_drewN ?_ _))) <;> (first | omega | (simp <;> omega))⟩
    · go_upto_region 3 with fail
      go_meet
      exact ⟨w2.heap.size, 1000000, rfl, by omega, by omega, by omega, by (repeat' (first | (with_reducible exact Blk.new _ _ _) | (with_reducible refine' Blk.alloc ?_ _) | (with_reducible refine' Blk.drew ?_) | (with_reducible refine' Blk.drewN ?_ _) | (with_reducible refine' Blk.put ?_ ?_) | (with_reducible refine' Blk.far ?_ ?_ _) | exact rfl)) <;> (first | omega | (simp <;> omega)), (by (repeat' (first | (with_reducible exact HT.out) | (with_reducible refine' TapeAt.alloc ?_ _) | (with_reducible refine' TapeAt.drew ?_) | (with_reducible refine' TapeAt.drewN ?_ _) | (with_reducible refine' TapeAt.set ?_ ?_ _))) <;> (first | omega | (simp <;> omega))), by (repeat' (first | (with_reducible exact K2) | (with_reducible refine Below.setCell ?_ ?_ _) | (with_reducible refine Below.alloc ?_ ?_ _) | (with_reducible refine Below.drew ?_) | (with_reducible refine below_drewN ?_ _))) <;> (first | omega | (simp <;> omega))⟩
    · go_upto_region 3 with fail
      go_meet
      exact ⟨w2.heap.size, 1000000000, rfl, by omega, by omega, by omega, by (repeat' (first | (with_reducible exact Blk.new _ _ _) | (with_reducible refine' Blk.alloc ?_ _) | (with_reducible refine' Blk.drew ?_) | (with_reducible refine' Blk.drewN ?_ _) | (with_reducible refine' Blk.put ?_ ?_) | (with_reducible refine' Blk.far ?_ ?_ _) | exact rfl)) <;> (first | omega | (simp <;> omega)), (by (repeat' (first | (with_reducible exact HT.out) | (with_reducible refine' TapeAt.alloc ?_ _) | (with_reducible refine' TapeAt.drew ?_) | (with_reducible refine' TapeAt.drewN ?_ _) | (with_reducible refine' TapeAt.set ?_ ?_ _))) <;> (first | omega | (simp <;> omega))), by (repeat' (first | (with_reducible exact K2) | (with_reducible refine Below.setCell ?_ ?_ _) | (with_reducible refine Below.alloc ?_ ?_ _) | (with_reducible refine Below.drew ?_) | (with_reducible refine below_drewN ?_ _))) <;> (first | omega | (simp <;> omega))⟩
  case rest =>
    obtain ⟨g, R, rfl, r0, r1, hg, bg, htc, KC⟩ := hcut
    clear HT K1 Z1 T1
    have ZC := KC.size
    have HT := Lib.hid htc; clear htc
    go_wp2
    go_loopw [7, 8] (fun a i wr => NRel w w.heap.size g M R a i wr) (fun _ i _ => (15 - intOf i).toNat)
    case atStart => exact ⟨0, 0, false, false, 0, 0, by omega, rfl, rfl, by omega, by omega, by omega, by omega, by omega, by omega, bg, HT.out, KC⟩
    case round =>
      obtain ⟨k, u, set, held, at_, shown, hk, rfl, rfl, u0, u1, q0, q1, s0, s1, br, htr, KR⟩ := hrel
      clear HT KC ZC bg
      have ZR := KR.size
      have HT := Lib.hid htr; clear htr
      obtain ⟨cr, fr, lr, er, kr⟩ := Blk.facts br
      by_cases hlt : k < 15
      · skip
        go_wp2_with fail
        refine (int_any _ _ _ (by (repeat' (first | (with_reducible exact HT.out) | (with_reducible refine' TapeAt.alloc ?_ _) | (with_reducible refine' TapeAt.drew ?_) | (with_reducible refine' TapeAt.drewN ?_ _) | (with_reducible refine' TapeAt.set ?_ ?_ _))) <;> (first | omega | (simp <;> omega))) (by omega) (by omega)).mono ?_
        rintro e w2 ⟨v, rfl, v0, v1, ht2, hg2⟩
        have K2 : Below w.heap.size w w2 := below_grown2 (by (repeat' (first | (with_reducible exact KR) | (with_reducible refine Below.setCell ?_ ?_ _) | (with_reducible refine Below.alloc ?_ ?_ _) | (with_reducible refine Below.drew ?_) | (with_reducible refine below_drewN ?_ _))) <;> (first | omega | (simp <;> omega))) hg2 (by first | omega | (simp <;> omega))
        have Z2 : w.heap.size ≤ w2.heap.size := K2.size
        have br' := Blk.keepG (g := g) hg2 (by (repeat' (first | (with_reducible refine' Blk.alloc ?_ _) | (with_reducible refine' Blk.drew ?_) | (with_reducible refine' Blk.drewN ?_ _) | (with_reducible refine' Blk.put ?_ ?_) | (with_reducible refine' Blk.far ?_ ?_ _) | exact br | exact rfl)) <;> (first | omega | (simp <;> omega))) (by first | omega | (simp <;> omega))
        (try simp only [List.setIfInBounds_toArray, List.set_cons_zero, List.set_cons_succ] at br')
        clear HT; have T2 := ht2.lt; have HT := Lib.hid ht2; clear ht2
        clear hg2 KR
        clear br cr fr lr er kr; have br := br'; clear br'
        obtain ⟨cr, fr, lr, er, kr⟩ := Blk.facts br
        go_wp2_with fail
        refine (tspan_any _ _ _ (by (repeat' (first | (with_reducible exact HT.out) | (with_reducible refine' TapeAt.alloc ?_ _) | (with_reducible refine' TapeAt.drew ?_) | (with_reducible refine' TapeAt.drewN ?_ _) | (with_reducible refine' TapeAt.set ?_ ?_ _))) <;> (first | omega | (simp <;> omega))) (by omega) (by omega)).mono ?_
        rintro e w3 ⟨lo, hi, rfl, x1, x2, x3, x4, ht3, hg3⟩
        have K3 : Below w.heap.size w w3 := below_grown2 (by (repeat' (first | (with_reducible exact K2) | (with_reducible refine Below.setCell ?_ ?_ _) | (with_reducible refine Below.alloc ?_ ?_ _) | (with_reducible refine Below.drew ?_) | (with_reducible refine below_drewN ?_ _))) <;> (first | omega | (simp <;> omega))) hg3 (by first | omega | (simp <;> omega))
        have Z3 : w.heap.size ≤ w3.heap.size := K3.size
        have br' := Blk.keepG (g := g) hg3 (by (repeat' (first | (with_reducible refine' Blk.alloc ?_ _) | (with_reducible refine' Blk.drew ?_) | (with_reducible refine' Blk.drewN ?_ _) | (with_reducible refine' Blk.put ?_ ?_) | (with_reducible refine' Blk.far ?_ ?_ _) | exact br | exact rfl)) <;> (first | omega | (simp <;> omega))) (by first | omega | (simp <;> omega))
        (try simp only [List.setIfInBounds_toArray, List.set_cons_zero, List.set_cons_succ] at br')
        clear HT; have T3 := ht3.lt; have HT := Lib.hid ht3; clear ht3
        clear hg3 K2
        clear br cr fr lr er kr; have br := br'; clear br'
        obtain ⟨cr, fr, lr, er, kr⟩ := Blk.facts br
        have hs : vS lo hi = true := vS_true.2 ⟨by omega, by omega, by omega⟩
        have hck : chk M R at_ shown = 0 := chk_ok (by simp [vT]; omega)
        have hvt : vT (u + v) = true := vT_true.2 ⟨by omega, by omega⟩
        have e := rdE_ok (set := set) hck hs hvt (by omega)
        have r := read_any M R set held at_ shown (u + v) lo hi
        rw [rdV_ok e, e] at r
        clear e hck hvt
        cases set
        · have hsh : rdShown M R false at_ shown (u + v) lo hi = lo + (hi - lo) * M / 1000 := by unfold rdShown; rw [if_pos rfl]
          rw [hsh, show rdHeld false shown hi = false from rfl] at r
          clear hsh
          obtain ⟨p1, p2⟩ := share_in x3 M0.1 M0.2
          generalize lo + (hi - lo) * M / 1000 = S1 at *
          have ho := rholds_all lo hi S1
          rw [show hdB lo hi S1 = true by simp [hdB, hs, p1, p2]] at ho
          have HO := Lib.hid ho; clear ho
          have R1 := Lib.hid r; clear r
          clear hs
          go_wp2_with fail
          refine (R1.out _).mono ?_
          rintro e w4 ⟨rfl, hb4⟩
          have K4 : Below w.heap.size w w4 := kept_call hb4 (by (repeat' (first | (with_reducible exact K3) | (with_reducible refine Below.setCell ?_ ?_ _) | (with_reducible refine Below.alloc ?_ ?_ _) | (with_reducible refine Below.drew ?_) | (with_reducible refine below_drewN ?_ _))) <;> (first | omega | (simp <;> omega)))
          have Z4 : w.heap.size ≤ w4.heap.size := K4.size
          have br' := Blk.keep (g := g) hb4 (by (repeat' (first | (with_reducible refine' Blk.alloc ?_ _) | (with_reducible refine' Blk.drew ?_) | (with_reducible refine' Blk.drewN ?_ _) | (with_reducible refine' Blk.put ?_ ?_) | (with_reducible refine' Blk.far ?_ ?_ _) | exact br | exact rfl)) <;> (first | omega | (simp <;> omega)))
          (try simp only [List.setIfInBounds_toArray, List.set_cons_zero, List.set_cons_succ] at br')
          have b4_0 := Blk.keep (g := w3.heap.size) hb4 (by (repeat' (first | (with_reducible exact Blk.new _ _ _) | (with_reducible refine' Blk.alloc ?_ _) | (with_reducible refine' Blk.drew ?_) | (with_reducible refine' Blk.drewN ?_ _) | (with_reducible refine' Blk.put ?_ ?_) | (with_reducible refine' Blk.far ?_ ?_ _) | exact rfl)) <;> (first | omega | (simp <;> omega)))
          (try simp only [List.setIfInBounds_toArray, List.set_cons_zero, List.set_cons_succ] at b4_0)
          have ht4 := TapeAt.below (by (repeat' (first | (with_reducible exact HT.out) | (with_reducible refine' TapeAt.alloc ?_ _) | (with_reducible refine' TapeAt.drew ?_) | (with_reducible refine' TapeAt.drewN ?_ _) | (with_reducible refine' TapeAt.set ?_ ?_ _))) <;> (first | omega | (simp <;> omega))) hb4
          clear HT; have T4 := ht4.lt; have HT := Lib.hid ht4; clear ht4
          clear hb4 K3
          clear br cr fr lr er kr; have br := br'; clear br'
          obtain ⟨cr, fr, lr, er, kr⟩ := Blk.facts br
          obtain ⟨c4_0, f4_0, l4_0, e4_0, k4_0⟩ := Blk.facts b4_0
          go_wp2_with fail
          refine (HO.out _).mono ?_
          rintro e w5 ⟨rfl, hb5⟩
          have K5 : Below w.heap.size w w5 := kept_call hb5 (by (repeat' (first | (with_reducible exact K4) | (with_reducible refine Below.setCell ?_ ?_ _) | (with_reducible refine Below.alloc ?_ ?_ _) | (with_reducible refine Below.drew ?_) | (with_reducible refine below_drewN ?_ _))) <;> (first | omega | (simp <;> omega)))
          have Z5 : w.heap.size ≤ w5.heap.size := K5.size
          have br' := Blk.keep (g := g) hb5 (by (repeat' (first | (with_reducible refine' Blk.alloc ?_ _) | (with_reducible refine' Blk.drew ?_) | (with_reducible refine' Blk.drewN ?_ _) | (with_reducible refine' Blk.put ?_ ?_) | (with_reducible refine' Blk.far ?_ ?_ _) | exact br | exact rfl)) <;> (first | omega | (simp <;> omega)))
          (try simp only [List.setIfInBounds_toArray, List.set_cons_zero, List.set_cons_succ] at br')
          have b4_0' := Blk.keep (g := w3.heap.size) hb5 (by (repeat' (first | (with_reducible refine' Blk.alloc ?_ _) | (with_reducible refine' Blk.drew ?_) | (with_reducible refine' Blk.drewN ?_ _) | (with_reducible refine' Blk.put ?_ ?_) | (with_reducible refine' Blk.far ?_ ?_ _) | exact b4_0 | exact rfl)) <;> (first | omega | (simp <;> omega)))
          (try simp only [List.setIfInBounds_toArray, List.set_cons_zero, List.set_cons_succ] at b4_0')
          have b5_0 := Blk.keep (g := w4.heap.size) hb5 (by (repeat' (first | (with_reducible exact Blk.new _ _ _) | (with_reducible refine' Blk.alloc ?_ _) | (with_reducible refine' Blk.drew ?_) | (with_reducible refine' Blk.drewN ?_ _) | (with_reducible refine' Blk.put ?_ ?_) | (with_reducible refine' Blk.far ?_ ?_ _) | exact rfl)) <;> (first | omega | (simp <;> omega)))
          (try simp only [List.setIfInBounds_toArray, List.set_cons_zero, List.set_cons_succ] at b5_0)
          have ht5 := TapeAt.below (by (repeat' (first | (with_reducible exact HT.out) | (with_reducible refine' TapeAt.alloc ?_ _) | (with_reducible refine' TapeAt.drew ?_) | (with_reducible refine' TapeAt.drewN ?_ _) | (with_reducible refine' TapeAt.set ?_ ?_ _))) <;> (first | omega | (simp <;> omega))) hb5
          clear HT; have T5 := ht5.lt; have HT := Lib.hid ht5; clear ht5
          clear hb5 K4
          clear br cr fr lr er kr; have br := br'; clear br'
          clear b4_0 c4_0 f4_0 l4_0 e4_0 k4_0; have b4_0 := b4_0'; clear b4_0'
          obtain ⟨cr, fr, lr, er, kr⟩ := Blk.facts br
          obtain ⟨c4_0, f4_0, l4_0, e4_0, k4_0⟩ := Blk.facts b4_0
          obtain ⟨c5_0, f5_0, l5_0, e5_0, k5_0⟩ := Blk.facts b5_0
          go_wp2
          go_roundw
          case rel =>
            exact ⟨k + 1, u + v, true, false, u + v, S1, by omega, by go_num, by go_num, by omega, by omega, by omega, by omega, by omega, by omega, by (repeat' (first | (with_reducible refine' Blk.alloc ?_ _) | (with_reducible refine' Blk.drew ?_) | (with_reducible refine' Blk.drewN ?_ _) | (with_reducible refine' Blk.put ?_ ?_) | (with_reducible refine' Blk.far ?_ ?_ _) | exact br | exact rfl)) <;> (first | omega | (simp <;> omega)), (by (repeat' (first | (with_reducible exact HT.out) | (with_reducible refine' TapeAt.alloc ?_ _) | (with_reducible refine' TapeAt.drew ?_) | (with_reducible refine' TapeAt.drewN ?_ _) | (with_reducible refine' TapeAt.set ?_ ?_ _))) <;> (first | omega | (simp <;> omega))), by (repeat' (first | (with_reducible exact K5) | (with_reducible refine Below.setCell ?_ ?_ _) | (with_reducible refine Below.alloc ?_ ?_ _) | (with_reducible refine Below.drew ?_) | (with_reducible refine below_drewN ?_ _))) <;> (first | omega | (simp <;> omega))⟩
          case measure => simp [intOf]; omega
        · by_cases hh : hi < shown
          · have hsh : rdShown M R true at_ shown (u + v) lo hi = shown := by unfold rdShown; rw [if_neg (by simp), if_pos hh]
            rw [hsh, show rdHeld true shown hi = true by simp [rdHeld, hh]] at r
            clear hsh
            have R1 := Lib.hid r; clear r
            clear hs
            go_wp2_with fail
            refine (R1.out _).mono ?_
            rintro e w4 ⟨rfl, hb4⟩
            have K4 : Below w.heap.size w w4 := kept_call hb4 (by (repeat' (first | (with_reducible exact K3) | (with_reducible refine Below.setCell ?_ ?_ _) | (with_reducible refine Below.alloc ?_ ?_ _) | (with_reducible refine Below.drew ?_) | (with_reducible refine below_drewN ?_ _))) <;> (first | omega | (simp <;> omega)))
            have Z4 : w.heap.size ≤ w4.heap.size := K4.size
            have br' := Blk.keep (g := g) hb4 (by (repeat' (first | (with_reducible refine' Blk.alloc ?_ _) | (with_reducible refine' Blk.drew ?_) | (with_reducible refine' Blk.drewN ?_ _) | (with_reducible refine' Blk.put ?_ ?_) | (with_reducible refine' Blk.far ?_ ?_ _) | exact br | exact rfl)) <;> (first | omega | (simp <;> omega)))
            (try simp only [List.setIfInBounds_toArray, List.set_cons_zero, List.set_cons_succ] at br')
            have b4_0 := Blk.keep (g := w3.heap.size) hb4 (by (repeat' (first | (with_reducible exact Blk.new _ _ _) | (with_reducible refine' Blk.alloc ?_ _) | (with_reducible refine' Blk.drew ?_) | (with_reducible refine' Blk.drewN ?_ _) | (with_reducible refine' Blk.put ?_ ?_) | (with_reducible refine' Blk.far ?_ ?_ _) | exact rfl)) <;> (first | omega | (simp <;> omega)))
            (try simp only [List.setIfInBounds_toArray, List.set_cons_zero, List.set_cons_succ] at b4_0)
            have ht4 := TapeAt.below (by (repeat' (first | (with_reducible exact HT.out) | (with_reducible refine' TapeAt.alloc ?_ _) | (with_reducible refine' TapeAt.drew ?_) | (with_reducible refine' TapeAt.drewN ?_ _) | (with_reducible refine' TapeAt.set ?_ ?_ _))) <;> (first | omega | (simp <;> omega))) hb4
            clear HT; have T4 := ht4.lt; have HT := Lib.hid ht4; clear ht4
            clear hb4 K3
            clear br cr fr lr er kr; have br := br'; clear br'
            obtain ⟨cr, fr, lr, er, kr⟩ := Blk.facts br
            obtain ⟨c4_0, f4_0, l4_0, e4_0, k4_0⟩ := Blk.facts b4_0
            go_wp2
            go_roundw
            case rel =>
              exact ⟨k + 1, u + v, true, true, u + v, shown, by omega, by go_num, by go_num, by omega, by omega, by omega, by omega, by omega, by omega, by (repeat' (first | (with_reducible refine' Blk.alloc ?_ _) | (with_reducible refine' Blk.drew ?_) | (with_reducible refine' Blk.drewN ?_ _) | (with_reducible refine' Blk.put ?_ ?_) | (with_reducible refine' Blk.far ?_ ?_ _) | exact br | exact rfl)) <;> (first | omega | (simp <;> omega)), (by (repeat' (first | (with_reducible exact HT.out) | (with_reducible refine' TapeAt.alloc ?_ _) | (with_reducible refine' TapeAt.drew ?_) | (with_reducible refine' TapeAt.drewN ?_ _) | (with_reducible refine' TapeAt.set ?_ ?_ _))) <;> (first | omega | (simp <;> omega))), by (repeat' (first | (with_reducible exact K4) | (with_reducible refine Below.setCell ?_ ?_ _) | (with_reducible refine Below.alloc ?_ ?_ _) | (with_reducible refine Below.drew ?_) | (with_reducible refine below_drewN ?_ _))) <;> (first | omega | (simp <;> omega))⟩
            case measure => simp [intOf]; omega
          · obtain ⟨p0, p1, p2⟩ := never_plain (R := R) (at_ := at_) (u := u + v) M0.1 M0.2 x3 hh
            rw [show rdHeld true shown hi = false by simp [rdHeld, hh]] at r
            generalize rdShown M R true at_ shown (u + v) lo hi = S1 at *
            have ho := rholds_all lo hi S1
            rw [show hdB lo hi S1 = true by simp [hdB, hs, p1, p2]] at ho
            have HO := Lib.hid ho; clear ho
            have R1 := Lib.hid r; clear r
            clear hs
            go_wp2_with fail
            refine (R1.out _).mono ?_
            rintro e w4 ⟨rfl, hb4⟩
            have K4 : Below w.heap.size w w4 := kept_call hb4 (by (repeat' (first | (with_reducible exact K3) | (with_reducible refine Below.setCell ?_ ?_ _) | (with_reducible refine Below.alloc ?_ ?_ _) | (with_reducible refine Below.drew ?_) | (with_reducible refine below_drewN ?_ _))) <;> (first | omega | (simp <;> omega)))
            have Z4 : w.heap.size ≤ w4.heap.size := K4.size
            have br' := Blk.keep (g := g) hb4 (by (repeat' (first | (with_reducible refine' Blk.alloc ?_ _) | (with_reducible refine' Blk.drew ?_) | (with_reducible refine' Blk.drewN ?_ _) | (with_reducible refine' Blk.put ?_ ?_) | (with_reducible refine' Blk.far ?_ ?_ _) | exact br | exact rfl)) <;> (first | omega | (simp <;> omega)))
            (try simp only [List.setIfInBounds_toArray, List.set_cons_zero, List.set_cons_succ] at br')
            have b4_0 := Blk.keep (g := w3.heap.size) hb4 (by (repeat' (first | (with_reducible exact Blk.new _ _ _) | (with_reducible refine' Blk.alloc ?_ _) | (with_reducible refine' Blk.drew ?_) | (with_reducible refine' Blk.drewN ?_ _) | (with_reducible refine' Blk.put ?_ ?_) | (with_reducible refine' Blk.far ?_ ?_ _) | exact rfl)) <;> (first | omega | (simp <;> omega)))
            (try simp only [List.setIfInBounds_toArray, List.set_cons_zero, List.set_cons_succ] at b4_0)
            have ht4 := TapeAt.below (by (repeat' (first | (with_reducible exact HT.out) | (with_reducible refine' TapeAt.alloc ?_ _) | (with_reducible refine' TapeAt.drew ?_) | (with_reducible refine' TapeAt.drewN ?_ _) | (with_reducible refine' TapeAt.set ?_ ?_ _))) <;> (first | omega | (simp <;> omega))) hb4
            clear HT; have T4 := ht4.lt; have HT := Lib.hid ht4; clear ht4
            clear hb4 K3
            clear br cr fr lr er kr; have br := br'; clear br'
            obtain ⟨cr, fr, lr, er, kr⟩ := Blk.facts br
            obtain ⟨c4_0, f4_0, l4_0, e4_0, k4_0⟩ := Blk.facts b4_0
            go_wp2_with fail
            refine (HO.out _).mono ?_
            rintro e w5 ⟨rfl, hb5⟩
            have K5 : Below w.heap.size w w5 := kept_call hb5 (by (repeat' (first | (with_reducible exact K4) | (with_reducible refine Below.setCell ?_ ?_ _) | (with_reducible refine Below.alloc ?_ ?_ _) | (with_reducible refine Below.drew ?_) | (with_reducible refine below_drewN ?_ _))) <;> (first | omega | (simp <;> omega)))
            have Z5 : w.heap.size ≤ w5.heap.size := K5.size
            have br' := Blk.keep (g := g) hb5 (by (repeat' (first | (with_reducible refine' Blk.alloc ?_ _) | (with_reducible refine' Blk.drew ?_) | (with_reducible refine' Blk.drewN ?_ _) | (with_reducible refine' Blk.put ?_ ?_) | (with_reducible refine' Blk.far ?_ ?_ _) | exact br | exact rfl)) <;> (first | omega | (simp <;> omega)))
            (try simp only [List.setIfInBounds_toArray, List.set_cons_zero, List.set_cons_succ] at br')
            have b4_0' := Blk.keep (g := w3.heap.size) hb5 (by (repeat' (first | (with_reducible refine' Blk.alloc ?_ _) | (with_reducible refine' Blk.drew ?_) | (with_reducible refine' Blk.drewN ?_ _) | (with_reducible refine' Blk.put ?_ ?_) | (with_reducible refine' Blk.far ?_ ?_ _) | exact b4_0 | exact rfl)) <;> (first | omega | (simp <;> omega)))
            (try simp only [List.setIfInBounds_toArray, List.set_cons_zero, List.set_cons_succ] at b4_0')
            have b5_0 := Blk.keep (g := w4.heap.size) hb5 (by (repeat' (first | (with_reducible exact Blk.new _ _ _) | (with_reducible refine' Blk.alloc ?_ _) | (with_reducible refine' Blk.drew ?_) | (with_reducible refine' Blk.drewN ?_ _) | (with_reducible refine' Blk.put ?_ ?_) | (with_reducible refine' Blk.far ?_ ?_ _) | exact rfl)) <;> (first | omega | (simp <;> omega)))
            (try simp only [List.setIfInBounds_toArray, List.set_cons_zero, List.set_cons_succ] at b5_0)
            have ht5 := TapeAt.below (by (repeat' (first | (with_reducible exact HT.out) | (with_reducible refine' TapeAt.alloc ?_ _) | (with_reducible refine' TapeAt.drew ?_) | (with_reducible refine' TapeAt.drewN ?_ _) | (with_reducible refine' TapeAt.set ?_ ?_ _))) <;> (first | omega | (simp <;> omega))) hb5
            clear HT; have T5 := ht5.lt; have HT := Lib.hid ht5; clear ht5
            clear hb5 K4
            clear br cr fr lr er kr; have br := br'; clear br'
            clear b4_0 c4_0 f4_0 l4_0 e4_0 k4_0; have b4_0 := b4_0'; clear b4_0'
            obtain ⟨cr, fr, lr, er, kr⟩ := Blk.facts br
            obtain ⟨c4_0, f4_0, l4_0, e4_0, k4_0⟩ := Blk.facts b4_0
            obtain ⟨c5_0, f5_0, l5_0, e5_0, k5_0⟩ := Blk.facts b5_0
            go_wp2
            go_roundw
            case rel =>
              exact ⟨k + 1, u + v, true, false, u + v, S1, by omega, by go_num, by go_num, by omega, by omega, by omega, by omega, by omega, by omega, by (repeat' (first | (with_reducible refine' Blk.alloc ?_ _) | (with_reducible refine' Blk.drew ?_) | (with_reducible refine' Blk.drewN ?_ _) | (with_reducible refine' Blk.put ?_ ?_) | (with_reducible refine' Blk.far ?_ ?_ _) | exact br | exact rfl)) <;> (first | omega | (simp <;> omega)), (by (repeat' (first | (with_reducible exact HT.out) | (with_reducible refine' TapeAt.alloc ?_ _) | (with_reducible refine' TapeAt.drew ?_) | (with_reducible refine' TapeAt.drewN ?_ _) | (with_reducible refine' TapeAt.set ?_ ?_ _))) <;> (first | omega | (simp <;> omega))), by (repeat' (first | (with_reducible exact K5) | (with_reducible refine Below.setCell ?_ ?_ _) | (with_reducible refine Below.alloc ?_ ?_ _) | (with_reducible refine Below.drew ?_) | (with_reducible refine below_drewN ?_ _))) <;> (first | omega | (simp <;> omega))⟩
            case measure => simp [intOf]; omega
      · obtain rfl : k = 15 := by omega
        go_wp2_with fail
        refine (known38_any _).mono ?_
        rintro e w4 ⟨rfl, hb4⟩
        have K4 : Below w.heap.size w w4 := kept_call hb4 (by (repeat' (first | (with_reducible exact KR) | (with_reducible refine Below.setCell ?_ ?_ _) | (with_reducible refine Below.alloc ?_ ?_ _) | (with_reducible refine Below.drew ?_) | (with_reducible refine below_drewN ?_ _))) <;> (first | omega | (simp <;> omega)))
        have Z4 : w.heap.size ≤ w4.heap.size := K4.size
        have br' := Blk.keep (g := g) hb4 (by (repeat' (first | (with_reducible refine' Blk.alloc ?_ _) | (with_reducible refine' Blk.drew ?_) | (with_reducible refine' Blk.drewN ?_ _) | (with_reducible refine' Blk.put ?_ ?_) | (with_reducible refine' Blk.far ?_ ?_ _) | exact br | exact rfl)) <;> (first | omega | (simp <;> omega)))
        (try simp only [List.setIfInBounds_toArray, List.set_cons_zero, List.set_cons_succ] at br')
        have ht4 := TapeAt.below (by (repeat' (first | (with_reducible exact HT.out) | (with_reducible refine' TapeAt.alloc ?_ _) | (with_reducible refine' TapeAt.drew ?_) | (with_reducible refine' TapeAt.drewN ?_ _) | (with_reducible refine' TapeAt.set ?_ ?_ _))) <;> (first | omega | (simp <;> omega))) hb4
        clear HT; have T4 := ht4.lt; have HT := Lib.hid ht4; clear ht4
        clear hb4 KR
        clear br cr fr lr er kr; have br := br'; clear br'
        obtain ⟨cr, fr, lr, er, kr⟩ := Blk.facts br
        go_wp2
        go_ret
        exact ⟨rfl, by (repeat' (first | (with_reducible exact K4) | (with_reducible refine Below.setCell ?_ ?_ _) | (with_reducible refine Below.alloc ?_ ?_ _) | (with_reducible refine Below.drew ?_) | (with_reducible refine below_drewN ?_ _))) <;> (first | omega | (simp <;> omega))⟩
theorem never_walk (A : Option Addr) (len cap : Nat) (zs : List Int) {w : World} (hA : IntsAt w A len zs) (aim : Int) (_ : IntIn aim) (W : World) (h : W = w) :
    Walked 7 #[.slice A len cap, .int .i64 aim] W := by
  subst h; exact never_core A len cap zs aim W hA
end Go.Proofs.Ytnjogepllhjcjaa
