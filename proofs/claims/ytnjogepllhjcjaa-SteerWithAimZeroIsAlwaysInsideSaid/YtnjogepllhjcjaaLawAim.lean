/- The walk of the law SteerWithAimZeroIsAlwaysInside. -/
import Derived.Test.YtnjogepllhjcjaaSteerF
import Derived.Test.YtnjogepllhjcjaaKitT
import Derived.Test.YtnjogepllhjcjaaR37
import Derived.Test.YtnjogepllhjcjaaLawKeeps
import Derived.Deep.DeepCutAuto
import Derived.Deep.LoopGhost
import Derived.Deep.RegionHeld3
import Derived.Deep.RegionWith
namespace Go.Proofs.Ytnjogepllhjcjaa
open Go.RowKit

theorem elLo_le {d p : Int} (hd : 0 ≤ d) (hp : 0 ≤ p) (hp1 : p ≤ 1000000) : elLo d p ≤ d := lo_le hd hp hp1
theorem aim_plain {R at_ shown u lo hi : Int} (hl : lo ≤ hi) (h : shown ≤ lo) : rdShown 0 R true at_ shown u lo hi = lo := by
  unfold rdShown
  rw [if_neg (by simp), if_neg (by omega)]
  generalize rdMost R at_ shown u = y
  simp
  omega
theorem aim_first {R at_ shown u lo hi : Int} : rdShown 0 R false at_ shown u lo hi = lo := by
  unfold rdShown
  rw [if_pos rfl]; simp
/-- What is known, and the clock that has read it, at the reading u. -/
def AInv (P u : Int) (set : Bool) (at_ shown ka klo khi le re : Int) : Prop :=
  0 ≤ ka ∧ ka ≤ u ∧ -500 ≤ klo ∧ klo ≤ khi ∧ khi ≤ 1000 + 2 * ka ∧ 0 ≤ le ∧ 0 ≤ re ∧ 0 ≤ at_ ∧ at_ ≤ u ∧ -500 ≤ shown ∧ shown ≤ 100000 ∧ (set = true → shown ≤ klo + elLo (u - ka) P)
theorem now_small {P u ka klo khi le re : Int} (p0 : 0 ≤ P) (p1 : P ≤ 1000000) (a0 : 0 ≤ ka) (a1 : ka ≤ u) (hu : u ≤ 20000) (h0 : -500 ≤ klo) (h1 : klo ≤ khi) (h2 : khi ≤ 1000 + 2 * ka) (l0 : 0 ≤ le) (l1 : le ≤ 1000) (r0 : 0 ≤ re) (r1 : re ≤ 1000) :
    nowT ka klo khi P le re u = (klo + elLo (u - ka) P, khi + elHi (u - ka) P, 0) ∧ vS (klo + elLo (u - ka) P) (khi + elHi (u - ka) P) = true ∧ klo ≤ klo + elLo (u - ka) P ∧ khi + elHi (u - ka) P ≤ 1000 + 2 * u ∧ klo + elLo (u - ka) P ≤ khi + elHi (u - ka) P := by
  have d0 : 0 ≤ u - ka := by omega
  have X1 := lo_pos d0 p0 p1
  have X2 := hi_two d0 p0 p1
  have X3 := le_hi d0 p0 p1
  have X4 := lo_le d0 p0 p1
  have hv : vS klo khi = true := vS_true.2 ⟨by omega, by omega, by omega⟩
  have hv2 : vS (klo + elLo (u - ka) P) (khi + elHi (u - ka) P) = true := vS_true.2 ⟨by omega, by omega, by omega⟩
  have hk : kE ka klo khi P le re = 0 := kE_0 hv (vT_true.2 ⟨by omega, by omega⟩) p0 p1 (by simp [ctB]; omega) (by simp [ctB]; omega)
  refine ⟨?_, hv2, by omega, by omega, by omega⟩
  rw [nowT_ok hk (by omega) (vT_true.2 ⟨by omega, by omega⟩), hv]
  unfold opT
  rw [inD_true.2 ⟨by omega, by omega, p0, p1⟩, hv2]
  rfl
theorem AInv.later {P u v : Int} {set : Bool} {at_ shown ka klo khi le re : Int} (h : AInv P u set at_ shown ka klo khi le re) (p0 : 0 ≤ P) (p1 : P ≤ 1000000) (hv : 0 ≤ v) : AInv P (u + v) set at_ shown ka klo khi le re := by
  obtain ⟨h1, h2, h3, h4, h5, h6, h7, h8, h9, h10, h11, h12⟩ := h
  refine ⟨h1, by omega, h3, h4, h5, h6, h7, h8, by omega, h10, h11, fun q => ?_⟩
  have := h12 q
  have := lo_longer (d := u - ka) (by omega) p0 p1 hv
  rw [show u - ka + v = u + v - ka by omega] at this
  omega
/-- What Learn leaves, at small numbers. -/
theorem AInv.learn {P u : Int} {set : Bool} {at_ shown ka klo khi le re c d : Int} (h : AInv P u set at_ shown ka klo khi le re) (p0 : 0 ≤ P) (p1 : P ≤ 1000000) (hu : u ≤ 20000) (l1 : le ≤ 1000) (r1 : re ≤ 1000) (hs : vS c d = true) :
    ∃ (ka' klo' khi' le' re' : Int) (ok : Bool), lrn ka klo khi P le re u c d = ⟨ka', klo', khi', P, le', re', ok, 0⟩ ∧ AInv P u set at_ shown ka' klo' khi' le' re' ∧ le' ≤ le + 1 ∧ re' ≤ re + 1 := by
  obtain ⟨h1, h2, h3, h4, h5, h6, h7, h8, h9, h10, h11, h12⟩ := h
  obtain ⟨n1, n2, n3, n4, n5⟩ := now_small p0 p1 h1 h2 hu h3 h4 h5 h6 l1 h7 r1
  rcases hm : mtB (klo + elLo (u - ka) P) (khi + elHi (u - ka) P) c d
  · rw [lrn_no n1 hs hm]
    exact ⟨_, _, _, _, _, _, rfl, ⟨h1, h2, h3, h4, h5, h6, by omega, h8, h9, h10, h11, h12⟩, by omega, by omega⟩
  · rw [lrn_yes n1 hs hm]
    have m : max (klo + elLo (u - ka) P) c ≤ min (khi + elHi (u - ka) P) d := by
      simp only [mtB, n2, hs, Bool.true_and, decide_eq_true_eq] at hm; exact hm
    refine ⟨_, _, _, _, _, _, rfl, ⟨by omega, by omega, by omega, by omega, by omega, by omega, by omega, h8, h9, h10, h11, fun q => ?_⟩, by omega, by omega⟩
    have := h12 q
    have := lo_pos (d := u - u) (by omega) p0 p1
    omega
/-- The head of the loop. -/
def ARel (w : World) (B gk gc : Nat) (P : Int) (G : Nat) (a i : Value) (wr : World) : Prop := ∃ (k : Nat) (u : Int) (set : Bool) (at_ shown ka klo khi le re : Int), k ≤ 10 ∧ G = 10 - k ∧ i = .int .i64 k ∧ a = .int .i64 u ∧ u ≤ 2000 * k ∧ le ≤ k ∧ re ≤ k ∧ AInv P u set at_ shown ka klo khi le re ∧
  Blk wr gk 51 #[.int .i64 ka, .int .i64 klo, .int .i64 khi, .int .i64 P, .int .i64 le, .int .i64 re] ∧ Blk wr gc 33 #[.int .i64 0, .int .i64 0, .bool set, .bool false, .int .i64 at_, .int .i64 shown] ∧ TapeAt wr B ∧ Below w.heap.size w wr

set_option maxRecDepth 100000 in
set_option maxHeartbeats 16000000 in
theorem aim_core (A : Option Addr) (len cap : Nat) (zs : List Int) (w : World) (hA : IntsAt w A len zs) :
    Calls Try.prog 9 #[.slice A len cap] w (RB w (.bool true)) := by
  have H := Lib.hid hA; clear hA
  go_enter Try.func9, Try.ntmps9
  go_wp2_with fail
  refine (new_any A len cap zs _ H.out).mono ?_
  rintro e w1 ⟨rfl, ht1, hb1⟩
  have K1 : Below w.heap.size w w1 := kept_call hb1 (by (repeat' (first | (with_reducible exact Below.refl _ _) | (with_reducible refine Below.setCell ?_ ?_ _) | (with_reducible refine Below.alloc ?_ ?_ _) | (with_reducible refine Below.drew ?_) | (with_reducible refine below_drewN ?_ _))) <;> (first | omega | (simp <;> omega)))
  have Z1 : w.heap.size ≤ w1.heap.size := K1.size
  clear hb1
  have T1 := ht1.lt
  have HT := Lib.hid ht1; clear ht1
  have HB : w.heap.size ≤ w.heap.size := Nat.le_refl _
  go_upto_region 2 with fail
  go_cut [4] (fun s4 wx => ∃ (g : Nat) (R lo hi : Int), s4 = .pointer (some ⟨g, 0, none⟩) ∧ 0 ≤ R ∧ R ≤ 1000000 ∧ -500 ≤ lo ∧ lo ≤ hi ∧ hi ≤ 1000 ∧ w.heap.size < g ∧ Blk wx g 51 #[.int .i64 0, .int .i64 lo, .int .i64 hi, .int .i64 R, .int .i64 0, .int .i64 0] ∧ TapeAt wx w.heap.size ∧ Below w.heap.size w wx)
  case first =>
    go_wp2_with fail
    refine (tspan_any _ _ _ (by (repeat' (first | (with_reducible exact HT.out) | (with_reducible refine' TapeAt.alloc ?_ _) | (with_reducible refine' TapeAt.drew ?_) | (with_reducible refine' TapeAt.drewN ?_ _) | (with_reducible refine' TapeAt.set ?_ ?_ _))) <;> (first | omega | (simp <;> omega))) (by omega) (by omega)).mono ?_
    rintro e w2 ⟨lo, hi, rfl, x0, x1, x2, x3, ht2, hg2⟩
    have K2 : Below w.heap.size w w2 := below_grown2 (by (repeat' (first | (with_reducible exact K1) | (with_reducible refine Below.setCell ?_ ?_ _) | (with_reducible refine Below.alloc ?_ ?_ _) | (with_reducible refine Below.drew ?_) | (with_reducible refine below_drewN ?_ _))) <;> (first | omega | (simp <;> omega))) hg2 (by first | omega | (simp <;> omega))
    have Z2 : w.heap.size ≤ w2.heap.size := K2.size
    clear HT; have T2 := ht2.lt; have HT := Lib.hid ht2; clear ht2
    clear hg2 K1
    go_wp2_with fail
    refine (int_any _ _ _ (by (repeat' (first | (with_reducible exact HT.out) | (with_reducible refine' TapeAt.alloc ?_ _) | (with_reducible refine' TapeAt.drew ?_) | (with_reducible refine' TapeAt.drewN ?_ _) | (with_reducible refine' TapeAt.set ?_ ?_ _))) <;> (first | omega | (simp <;> omega))) (by omega) (by omega)).mono ?_
    rintro e w3 ⟨v, rfl, v0, v1, ht3, hg3⟩
    have K3 : Below w.heap.size w w3 := below_grown2 (by (repeat' (first | (with_reducible exact K2) | (with_reducible refine Below.setCell ?_ ?_ _) | (with_reducible refine Below.alloc ?_ ?_ _) | (with_reducible refine Below.drew ?_) | (with_reducible refine below_drewN ?_ _))) <;> (first | omega | (simp <;> omega))) hg3 (by first | omega | (simp <;> omega))
    have Z3 : w.heap.size ≤ w3.heap.size := K3.size
    have b3_0 := Blk.keepG (g := w2.heap.size) hg3 (by (repeat' (first | (with_reducible exact Blk.new _ _ _) | (with_reducible refine' Blk.alloc ?_ _) | (with_reducible refine' Blk.drew ?_) | (with_reducible refine' Blk.drewN ?_ _) | (with_reducible refine' Blk.put ?_ ?_) | (with_reducible refine' Blk.far ?_ ?_ _) | exact rfl)) <;> (first | omega | (simp <;> omega))) (by first | omega | (simp <;> omega))
    (try simp only [List.setIfInBounds_toArray, List.set_cons_zero, List.set_cons_succ] at b3_0)
    clear HT; have T3 := ht3.lt; have HT := Lib.hid ht3; clear ht3
    clear hg3 K2
    obtain ⟨c3_0, f3_0, l3_0, e3_0, k3_0⟩ := Blk.facts b3_0
    obtain rfl | rfl | rfl : v = 0 ∨ v = 1 ∨ v = 2 := by omega
    · go_upto_region 3 with fail
      go_meet
      exact ⟨w3.heap.size, 0, lo, hi, rfl, by omega, by omega, by omega, by omega, by omega, by omega, by (repeat' (first | (with_reducible exact Blk.new _ _ _) | (with_reducible refine' Blk.alloc ?_ _) | (with_reducible refine' Blk.drew ?_) | (with_reducible refine' Blk.drewN ?_ _) | (with_reducible refine' Blk.put ?_ ?_) | (with_reducible refine' Blk.far ?_ ?_ _) | exact rfl)) <;> (first | omega | (simp <;> omega)), (by (repeat' (first | (with_reducible exact HT.out) | (with_reducible refine' TapeAt.alloc ?_ _) | (with_reducible refine' TapeAt.drew ?_) | (with_reducible refine' TapeAt.drewN ?_ _) | (with_reducible refine' TapeAt.set ?_ ?_ _))) <;> (first | omega | (simp <;> omega))), by (repeat' (first | (with_reducible exact K3) | (with_reducible refine Below.setCell ?_ ?_ _) | (with_reducible refine Below.alloc ?_ ?_ _) | (with_reducible refine Below.drew ?_) | (with_reducible refine below_drewN ?_ _))) <;> (first | omega | (simp <;> omega))⟩
    · go_upto_region 3 with fail
      go_meet
      exact ⟨w3.heap.size, 200, lo, hi, rfl, by omega, by omega, by omega, by omega, by omega, by omega, by (repeat' (first | (with_reducible exact Blk.new _ _ _) | (with_reducible refine' Blk.alloc ?_ _) | (with_reducible refine' Blk.drew ?_) | (with_reducible refine' Blk.drewN ?_ _) | (with_reducible refine' Blk.put ?_ ?_) | (with_reducible refine' Blk.far ?_ ?_ _) | exact rfl)) <;> (first | omega | (simp <;> omega)), (by (repeat' (first | (with_reducible exact HT.out) | (with_reducible refine' TapeAt.alloc ?_ _) | (with_reducible refine' TapeAt.drew ?_) | (with_reducible refine' TapeAt.drewN ?_ _) | (with_reducible refine' TapeAt.set ?_ ?_ _))) <;> (first | omega | (simp <;> omega))), by (repeat' (first | (with_reducible exact K3) | (with_reducible refine Below.setCell ?_ ?_ _) | (with_reducible refine Below.alloc ?_ ?_ _) | (with_reducible refine Below.drew ?_) | (with_reducible refine below_drewN ?_ _))) <;> (first | omega | (simp <;> omega))⟩
    · go_upto_region 3 with fail
      go_meet
      exact ⟨w3.heap.size, 1000000, lo, hi, rfl, by omega, by omega, by omega, by omega, by omega, by omega, by (repeat' (first | (with_reducible exact Blk.new _ _ _) | (with_reducible refine' Blk.alloc ?_ _) | (with_reducible refine' Blk.drew ?_) | (with_reducible refine' Blk.drewN ?_ _) | (with_reducible refine' Blk.put ?_ ?_) | (with_reducible refine' Blk.far ?_ ?_ _) | exact rfl)) <;> (first | omega | (simp <;> omega)), (by (repeat' (first | (with_reducible exact HT.out) | (with_reducible refine' TapeAt.alloc ?_ _) | (with_reducible refine' TapeAt.drew ?_) | (with_reducible refine' TapeAt.drewN ?_ _) | (with_reducible refine' TapeAt.set ?_ ?_ _))) <;> (first | omega | (simp <;> omega))), by (repeat' (first | (with_reducible exact K3) | (with_reducible refine Below.setCell ?_ ?_ _) | (with_reducible refine Below.alloc ?_ ?_ _) | (with_reducible refine Below.drew ?_) | (with_reducible refine below_drewN ?_ _))) <;> (first | omega | (simp <;> omega))⟩
  case rest =>
    obtain ⟨gk, P, klo, khi, rfl, p0, p1, x0, x1, x2, hgk, bk, htc, KC⟩ := hcut
    clear HT K1 Z1 T1
    have ZC := KC.size
    have HT := Lib.hid htc; clear htc
    obtain ⟨ck, fk, lk, ek, kk⟩ := Blk.facts bk
    go_wp2
    go_loopg [6, 7] 10 (fun G a i wr => ARel w w.heap.size gk wc.heap.size P G a i wr)
    case atStart => exact ⟨0, 0, false, 0, 0, 0, klo, khi, 0, 0, by omega, by omega, rfl, rfl, by omega, by omega, by omega, ⟨by omega, by omega, by omega, by omega, by omega, by omega, by omega, by omega, by omega, by omega, by omega, fun q => by cases q⟩, by (repeat' (first | (with_reducible refine' Blk.alloc ?_ _) | (with_reducible refine' Blk.drew ?_) | (with_reducible refine' Blk.drewN ?_ _) | (with_reducible refine' Blk.put ?_ ?_) | (with_reducible refine' Blk.far ?_ ?_ _) | exact bk | exact rfl)) <;> (first | omega | (simp <;> omega)), by (repeat' (first | (with_reducible exact Blk.new _ _ _) | (with_reducible refine' Blk.alloc ?_ _) | (with_reducible refine' Blk.drew ?_) | (with_reducible refine' Blk.drewN ?_ _) | (with_reducible refine' Blk.put ?_ ?_) | (with_reducible refine' Blk.far ?_ ?_ _) | exact rfl)) <;> (first | omega | (simp <;> omega)), (by (repeat' (first | (with_reducible exact HT.out) | (with_reducible refine' TapeAt.alloc ?_ _) | (with_reducible refine' TapeAt.drew ?_) | (with_reducible refine' TapeAt.drewN ?_ _) | (with_reducible refine' TapeAt.set ?_ ?_ _))) <;> (first | omega | (simp <;> omega))), by (repeat' (first | (with_reducible exact KC) | (with_reducible refine Below.setCell ?_ ?_ _) | (with_reducible refine Below.alloc ?_ ?_ _) | (with_reducible refine Below.drew ?_) | (with_reducible refine below_drewN ?_ _))) <;> (first | omega | (simp <;> omega))⟩
    case round =>
      obtain ⟨k, u, set, at_, shown, ka, klo, khi, le, re, hk, rfl, rfl, rfl, u1, l1, r1, hI, bk, bc, htr, KR⟩ := hrel
      have hgc : w.heap.size < wc.heap.size := by omega
      have hkc : gk < wc.heap.size := lk
      generalize wc.heap.size = gc at *
      clear HT KC ZC ck fk lk ek kk x0 x1 x2
      have ZR := KR.size
      have HT := Lib.hid htr; clear htr
      obtain ⟨ck, fk, lk, ek, kk⟩ := Blk.facts bk
      obtain ⟨cc, fc, lc, ec, kc⟩ := Blk.facts bc
      have hu := hI.2.1; have hka := hI.1
      have HI := Lib.hid hI; clear hI
      by_cases hlt : k < 10
      · skip
        go_wp2_with fail
        refine (int_any _ _ _ (by (repeat' (first | (with_reducible exact HT.out) | (with_reducible refine' TapeAt.alloc ?_ _) | (with_reducible refine' TapeAt.drew ?_) | (with_reducible refine' TapeAt.drewN ?_ _) | (with_reducible refine' TapeAt.set ?_ ?_ _))) <;> (first | omega | (simp <;> omega))) (by omega) (by omega)).mono ?_
        rintro e w2 ⟨v, rfl, v0, v1, ht2, hg2⟩
        have K2 : Below w.heap.size w w2 := below_grown2 (by (repeat' (first | (with_reducible exact KR) | (with_reducible refine Below.setCell ?_ ?_ _) | (with_reducible refine Below.alloc ?_ ?_ _) | (with_reducible refine Below.drew ?_) | (with_reducible refine below_drewN ?_ _))) <;> (first | omega | (simp <;> omega))) hg2 (by first | omega | (simp <;> omega))
        have Z2 : w.heap.size ≤ w2.heap.size := K2.size
        have bk' := Blk.keepG (g := gk) hg2 (by (repeat' (first | (with_reducible refine' Blk.alloc ?_ _) | (with_reducible refine' Blk.drew ?_) | (with_reducible refine' Blk.drewN ?_ _) | (with_reducible refine' Blk.put ?_ ?_) | (with_reducible refine' Blk.far ?_ ?_ _) | exact bk | exact rfl)) <;> (first | omega | (simp <;> omega))) (by first | omega | (simp <;> omega))
        (try simp only [List.setIfInBounds_toArray, List.set_cons_zero, List.set_cons_succ] at bk')
        have bc' := Blk.keepG (g := gc) hg2 (by (repeat' (first | (with_reducible refine' Blk.alloc ?_ _) | (with_reducible refine' Blk.drew ?_) | (with_reducible refine' Blk.drewN ?_ _) | (with_reducible refine' Blk.put ?_ ?_) | (with_reducible refine' Blk.far ?_ ?_ _) | exact bc | exact rfl)) <;> (first | omega | (simp <;> omega))) (by first | omega | (simp <;> omega))
        (try simp only [List.setIfInBounds_toArray, List.set_cons_zero, List.set_cons_succ] at bc')
        clear HT; have T2 := ht2.lt; have HT := Lib.hid ht2; clear ht2
        clear hg2 KR
        clear bk ck fk lk ek kk; have bk := bk'; clear bk'
        clear bc cc fc lc ec kc; have bc := bc'; clear bc'
        obtain ⟨ck, fk, lk, ek, kk⟩ := Blk.facts bk
        obtain ⟨cc, fc, lc, ec, kc⟩ := Blk.facts bc
        replace HI := Lib.hid (HI.out.later p0 p1 v0)
        go_wp2_with fail
        refine (tbool_any _ _ _ (by (repeat' (first | (with_reducible exact HT.out) | (with_reducible refine' TapeAt.alloc ?_ _) | (with_reducible refine' TapeAt.drew ?_) | (with_reducible refine' TapeAt.drewN ?_ _) | (with_reducible refine' TapeAt.set ?_ ?_ _))) <;> (first | omega | (simp <;> omega))) (by omega) (by omega)).mono ?_
        rintro e w3 ⟨bb, rfl, ht3, hg3⟩
        have K3 : Below w.heap.size w w3 := below_grown2 (by (repeat' (first | (with_reducible exact K2) | (with_reducible refine Below.setCell ?_ ?_ _) | (with_reducible refine Below.alloc ?_ ?_ _) | (with_reducible refine Below.drew ?_) | (with_reducible refine below_drewN ?_ _))) <;> (first | omega | (simp <;> omega))) hg3 (by first | omega | (simp <;> omega))
        have Z3 : w.heap.size ≤ w3.heap.size := K3.size
        have bk' := Blk.keepG (g := gk) hg3 (by (repeat' (first | (with_reducible refine' Blk.alloc ?_ _) | (with_reducible refine' Blk.drew ?_) | (with_reducible refine' Blk.drewN ?_ _) | (with_reducible refine' Blk.put ?_ ?_) | (with_reducible refine' Blk.far ?_ ?_ _) | exact bk | exact rfl)) <;> (first | omega | (simp <;> omega))) (by first | omega | (simp <;> omega))
        (try simp only [List.setIfInBounds_toArray, List.set_cons_zero, List.set_cons_succ] at bk')
        have bc' := Blk.keepG (g := gc) hg3 (by (repeat' (first | (with_reducible refine' Blk.alloc ?_ _) | (with_reducible refine' Blk.drew ?_) | (with_reducible refine' Blk.drewN ?_ _) | (with_reducible refine' Blk.put ?_ ?_) | (with_reducible refine' Blk.far ?_ ?_ _) | exact bc | exact rfl)) <;> (first | omega | (simp <;> omega))) (by first | omega | (simp <;> omega))
        (try simp only [List.setIfInBounds_toArray, List.set_cons_zero, List.set_cons_succ] at bc')
        clear HT; have T3 := ht3.lt; have HT := Lib.hid ht3; clear ht3
        clear hg3 K2
        clear bk ck fk lk ek kk; have bk := bk'; clear bk'
        clear bc cc fc lc ec kc; have bc := bc'; clear bc'
        obtain ⟨ck, fk, lk, ek, kk⟩ := Blk.facts bk
        obtain ⟨cc, fc, lc, ec, kc⟩ := Blk.facts bc
        go_upto_if 31 with fail
        go_cut [] (fun wx => ∃ (ka klo khi le re : Int), le ≤ (k : Int) + 1 ∧ re ≤ (k : Int) + 1 ∧ AInv P (u + v) set at_ shown ka klo khi le re ∧ Blk wx gk 51 #[.int .i64 ka, .int .i64 klo, .int .i64 khi, .int .i64 P, .int .i64 le, .int .i64 re] ∧ Blk wx gc 33 #[.int .i64 0, .int .i64 0, .bool set, .bool false, .int .i64 at_, .int .i64 shown] ∧ TapeAt wx w.heap.size ∧ Below w.heap.size w wx)
        case first =>
          cases bb
          · go_wp2
            go_meet
            exact ⟨ka, klo, khi, le, re, by omega, by omega, HI.out, bk, bc, HT.out, K3⟩
          · go_upto_region 10 with fail
            go_region_with ((first | (go_at_call 29; refine (tspan_any _ _ _ (by (repeat' (first | (with_reducible exact HT.out) | (with_reducible refine' TapeAt.alloc ?_ _) | (with_reducible refine' TapeAt.drew ?_) | (with_reducible refine' TapeAt.drewN ?_ _) | (with_reducible refine' TapeAt.set ?_ ?_ _))) <;> (first | omega | (simp <;> omega))) (by omega) (by omega)).mono ?_; rintro e w4 ⟨c, d, rfl, y0, y1, y2, y3, ht4, hg4⟩; have hs : vS c d = true := vS_true.2 ⟨by omega, by omega, by omega⟩; obtain ⟨ka', klo', khi', le', re', okk, hl, hI', hle, hre⟩ := AInv.learn HI.out p0 p1 (by omega) (by omega) (by omega) hs; have r := rlearn_any ka klo khi P le re (u + v) c d; rw [hl] at r; unfold Lrn.V V6 at r; dsimp only at r; have R := Lib.hid r; have HI' := Lib.hid hI'; clear r hl hs hI'; have K4 : Below w.heap.size w w4 := below_grown2 (by (repeat' (first | (with_reducible exact K3) | (with_reducible refine Below.setCell ?_ ?_ _) | (with_reducible refine Below.alloc ?_ ?_ _) | (with_reducible refine Below.drew ?_) | (with_reducible refine below_drewN ?_ _))) <;> (first | omega | (simp <;> omega))) hg4 (by omega); have Z4 : w.heap.size ≤ w4.heap.size := K4.size; have bk4 := Blk.keepG (g := gk) hg4 (by (repeat' (first | (with_reducible refine' Blk.alloc ?_ _) | (with_reducible refine' Blk.drew ?_) | (with_reducible refine' Blk.drewN ?_ _) | (with_reducible refine' Blk.put ?_ ?_) | (with_reducible refine' Blk.far ?_ ?_ _) | exact bk | exact rfl)) <;> (first | omega | (simp <;> omega))) (by omega); have bc4 := Blk.keepG (g := gc) hg4 (by (repeat' (first | (with_reducible refine' Blk.alloc ?_ _) | (with_reducible refine' Blk.drew ?_) | (with_reducible refine' Blk.drewN ?_ _) | (with_reducible refine' Blk.put ?_ ?_) | (with_reducible refine' Blk.far ?_ ?_ _) | exact bc | exact rfl)) <;> (first | omega | (simp <;> omega))) (by omega); obtain ⟨ck4, fk4, lk4, ek4, kk4⟩ := Blk.facts bk4; have T4 := ht4.lt; have HT4 := Lib.hid ht4; clear ht4 hg4) | (go_at_call 31; refine (R.out _).mono ?_; rintro e w5 ⟨rfl, hb5⟩; have K5 : Below w.heap.size w w5 := kept_call hb5 (by (repeat' (first | (with_reducible exact K4) | (with_reducible refine Below.setCell ?_ ?_ _) | (with_reducible refine Below.alloc ?_ ?_ _) | (with_reducible refine Below.drew ?_) | (with_reducible refine below_drewN ?_ _))) <;> (first | omega | (simp <;> omega))); have Z5 : w.heap.size ≤ w5.heap.size := K5.size; have bk5 := Blk.keep (g := gk) hb5 (by (repeat' (first | (with_reducible refine' Blk.alloc ?_ _) | (with_reducible refine' Blk.drew ?_) | (with_reducible refine' Blk.drewN ?_ _) | (with_reducible refine' Blk.put ?_ ?_) | (with_reducible refine' Blk.far ?_ ?_ _) | exact bk4 | exact rfl)) <;> (first | omega | (simp <;> omega))); have bc5 := Blk.keep (g := gc) hb5 (by (repeat' (first | (with_reducible refine' Blk.alloc ?_ _) | (with_reducible refine' Blk.drew ?_) | (with_reducible refine' Blk.drewN ?_ _) | (with_reducible refine' Blk.put ?_ ?_) | (with_reducible refine' Blk.far ?_ ?_ _) | exact bc4 | exact rfl)) <;> (first | omega | (simp <;> omega))); obtain ⟨ck5, fk5, lk5, ek5, kk5⟩ := Blk.facts bk5; have ht5 := TapeAt.below (by (repeat' (first | (with_reducible exact HT4.out) | (with_reducible refine' TapeAt.alloc ?_ _) | (with_reducible refine' TapeAt.drew ?_) | (with_reducible refine' TapeAt.drewN ?_ _) | (with_reducible refine' TapeAt.set ?_ ?_ _))) <;> (first | omega | (simp <;> omega))) hb5; have HT5 := Lib.hid ht5; clear ht5 hb5)))
            all_goals
              go_wp2_with fail
              go_meet
              exact ⟨ka', klo', khi', le', re', by omega, by omega, HI'.out, by (repeat' (first | (with_reducible refine' Blk.alloc ?_ _) | (with_reducible refine' Blk.drew ?_) | (with_reducible refine' Blk.drewN ?_ _) | (with_reducible refine' Blk.put ?_ ?_) | (with_reducible refine' Blk.far ?_ ?_ _) | exact bk5 | exact rfl)) <;> (first | omega | (simp <;> omega)), by (repeat' (first | (with_reducible refine' Blk.alloc ?_ _) | (with_reducible refine' Blk.drew ?_) | (with_reducible refine' Blk.drewN ?_ _) | (with_reducible refine' Blk.put ?_ ?_) | (with_reducible refine' Blk.far ?_ ?_ _) | exact bc5 | exact rfl)) <;> (first | omega | (simp <;> omega)), (by (repeat' (first | (with_reducible exact HT5.out) | (with_reducible refine' TapeAt.alloc ?_ _) | (with_reducible refine' TapeAt.drew ?_) | (with_reducible refine' TapeAt.drewN ?_ _) | (with_reducible refine' TapeAt.set ?_ ?_ _))) <;> (first | omega | (simp <;> omega))), by (repeat' (first | (with_reducible exact K5) | (with_reducible refine Below.setCell ?_ ?_ _) | (with_reducible refine Below.alloc ?_ ?_ _) | (with_reducible refine Below.drew ?_) | (with_reducible refine below_drewN ?_ _))) <;> (first | omega | (simp <;> omega))⟩
        case rest =>
          obtain ⟨ka, klo, khi, le, re, hle, hre, hI, bk, bc, htc, KD⟩ := hcut
          clear HT HI K3
          have ZD := KD.size
          have HT := Lib.hid htc; clear htc
          clear ck fk lk ek kk cc fc lc ec kc
          obtain ⟨ck, fk, lk, ek, kk⟩ := Blk.facts bk
          obtain ⟨cc, fc, lc, ec, kc⟩ := Blk.facts bc
          obtain ⟨h1, h2, h3, h4, h5, h6, h7, h8, h9, h10, h11, h12⟩ := hI
          obtain ⟨n1, n2, n3, n4, n5⟩ := now_small p0 p1 h1 h2 (by omega) h3 h4 h5 h6 (by omega) h7 (by omega)
          have r := rnow_any ka klo khi P le re (u + v)
          rw [n1] at r
          unfold V3 at r
          dsimp only at r
          clear n1
          have x4 := elLo_le (d := u + v - ka) (p := P) (by omega) p0 p1
          generalize hx : klo + elLo (u + v - ka) P = x at *
          generalize khi + elHi (u + v - ka) P = y at *
          have hx' := Lib.hid hx; clear hx
          have hck : chk 0 0 at_ shown = 0 := chk_ok (by simp [vT]; omega)
          have hvt : vT (u + v) = true := vT_true.2 ⟨by omega, by omega⟩
          have e := rdE_ok (set := set) hck n2 hvt (by omega)
          have q := read_any 0 0 set false at_ shown (u + v) x y
          have hsh : rdShown 0 0 set at_ shown (u + v) x y = x := by
            cases set
            · exact aim_first
            · exact aim_plain n5 (h12 rfl)
          have hh : rdHeld set shown y = false := by
            cases set
            · rfl
            · have := h12 rfl
              simp [rdHeld]; omega
          rw [rdV_ok e, e, hsh, hh] at q
          clear e hck hvt hsh hh n2
          have H12 := Lib.hid h12; clear h12
          have Rn := Lib.hid r; clear r
          have Rq := Lib.hid q; clear q
          go_wp2_with fail
          refine (Rn.out _).mono ?_
          rintro e w4 ⟨rfl, hb4⟩
          have K4 : Below w.heap.size w w4 := kept_call hb4 (by (repeat' (first | (with_reducible exact KD) | (with_reducible refine Below.setCell ?_ ?_ _) | (with_reducible refine Below.alloc ?_ ?_ _) | (with_reducible refine Below.drew ?_) | (with_reducible refine below_drewN ?_ _))) <;> (first | omega | (simp <;> omega)))
          have Z4 : w.heap.size ≤ w4.heap.size := K4.size
          have bk' := Blk.keep (g := gk) hb4 (by (repeat' (first | (with_reducible refine' Blk.alloc ?_ _) | (with_reducible refine' Blk.drew ?_) | (with_reducible refine' Blk.drewN ?_ _) | (with_reducible refine' Blk.put ?_ ?_) | (with_reducible refine' Blk.far ?_ ?_ _) | exact bk | exact rfl)) <;> (first | omega | (simp <;> omega)))
          (try simp only [List.setIfInBounds_toArray, List.set_cons_zero, List.set_cons_succ] at bk')
          have bc' := Blk.keep (g := gc) hb4 (by (repeat' (first | (with_reducible refine' Blk.alloc ?_ _) | (with_reducible refine' Blk.drew ?_) | (with_reducible refine' Blk.drewN ?_ _) | (with_reducible refine' Blk.put ?_ ?_) | (with_reducible refine' Blk.far ?_ ?_ _) | exact bc | exact rfl)) <;> (first | omega | (simp <;> omega)))
          (try simp only [List.setIfInBounds_toArray, List.set_cons_zero, List.set_cons_succ] at bc')
          have ht4 := TapeAt.below (by (repeat' (first | (with_reducible exact HT.out) | (with_reducible refine' TapeAt.alloc ?_ _) | (with_reducible refine' TapeAt.drew ?_) | (with_reducible refine' TapeAt.drewN ?_ _) | (with_reducible refine' TapeAt.set ?_ ?_ _))) <;> (first | omega | (simp <;> omega))) hb4
          clear HT; have T4 := ht4.lt; have HT := Lib.hid ht4; clear ht4
          clear hb4 KD
          clear bk ck fk lk ek kk; have bk := bk'; clear bk'
          clear bc cc fc lc ec kc; have bc := bc'; clear bc'
          obtain ⟨ck, fk, lk, ek, kk⟩ := Blk.facts bk
          obtain ⟨cc, fc, lc, ec, kc⟩ := Blk.facts bc
          go_wp2_with fail
          refine (Rq.out _).mono ?_
          rintro e w5 ⟨rfl, hb5⟩
          have K5 : Below w.heap.size w w5 := kept_call hb5 (by (repeat' (first | (with_reducible exact K4) | (with_reducible refine Below.setCell ?_ ?_ _) | (with_reducible refine Below.alloc ?_ ?_ _) | (with_reducible refine Below.drew ?_) | (with_reducible refine below_drewN ?_ _))) <;> (first | omega | (simp <;> omega)))
          have Z5 : w.heap.size ≤ w5.heap.size := K5.size
          have bk' := Blk.keep (g := gk) hb5 (by (repeat' (first | (with_reducible refine' Blk.alloc ?_ _) | (with_reducible refine' Blk.drew ?_) | (with_reducible refine' Blk.drewN ?_ _) | (with_reducible refine' Blk.put ?_ ?_) | (with_reducible refine' Blk.far ?_ ?_ _) | exact bk | exact rfl)) <;> (first | omega | (simp <;> omega)))
          (try simp only [List.setIfInBounds_toArray, List.set_cons_zero, List.set_cons_succ] at bk')
          have bc' := Blk.keep (g := gc) hb5 (by (repeat' (first | (with_reducible refine' Blk.alloc ?_ _) | (with_reducible refine' Blk.drew ?_) | (with_reducible refine' Blk.drewN ?_ _) | (with_reducible refine' Blk.put ?_ ?_) | (with_reducible refine' Blk.far ?_ ?_ _) | exact bc | exact rfl)) <;> (first | omega | (simp <;> omega)))
          (try simp only [List.setIfInBounds_toArray, List.set_cons_zero, List.set_cons_succ] at bc')
          have b5_0 := Blk.keep (g := w4.heap.size) hb5 (by (repeat' (first | (with_reducible exact Blk.new _ _ _) | (with_reducible refine' Blk.alloc ?_ _) | (with_reducible refine' Blk.drew ?_) | (with_reducible refine' Blk.drewN ?_ _) | (with_reducible refine' Blk.put ?_ ?_) | (with_reducible refine' Blk.far ?_ ?_ _) | exact rfl)) <;> (first | omega | (simp <;> omega)))
          (try simp only [List.setIfInBounds_toArray, List.set_cons_zero, List.set_cons_succ] at b5_0)
          have ht5 := TapeAt.below (by (repeat' (first | (with_reducible exact HT.out) | (with_reducible refine' TapeAt.alloc ?_ _) | (with_reducible refine' TapeAt.drew ?_) | (with_reducible refine' TapeAt.drewN ?_ _) | (with_reducible refine' TapeAt.set ?_ ?_ _))) <;> (first | omega | (simp <;> omega))) hb5
          clear HT; have T5 := ht5.lt; have HT := Lib.hid ht5; clear ht5
          clear hb5 K4
          clear bk ck fk lk ek kk; have bk := bk'; clear bk'
          clear bc cc fc lc ec kc; have bc := bc'; clear bc'
          obtain ⟨ck, fk, lk, ek, kk⟩ := Blk.facts bk
          obtain ⟨cc, fc, lc, ec, kc⟩ := Blk.facts bc
          obtain ⟨c5_0, f5_0, l5_0, e5_0, k5_0⟩ := Blk.facts b5_0
          go_wp2
          go_roundg (10 - (k + 1))
          case measure => omega
          case rel => exact ⟨k + 1, u + v, true, u + v, x, ka, klo, khi, le, re, by omega, by omega, by go_num, by go_num, by omega, by omega, by omega, ⟨h1, h2, h3, h4, h5, h6, h7, by omega, by omega, by omega, by omega, fun _ => by rw [← hx'.out]; exact Int.le_refl _⟩, by (repeat' (first | (with_reducible refine' Blk.alloc ?_ _) | (with_reducible refine' Blk.drew ?_) | (with_reducible refine' Blk.drewN ?_ _) | (with_reducible refine' Blk.put ?_ ?_) | (with_reducible refine' Blk.far ?_ ?_ _) | exact bk | exact rfl)) <;> (first | omega | (simp <;> omega)), by (repeat' (first | (with_reducible refine' Blk.alloc ?_ _) | (with_reducible refine' Blk.drew ?_) | (with_reducible refine' Blk.drewN ?_ _) | (with_reducible refine' Blk.put ?_ ?_) | (with_reducible refine' Blk.far ?_ ?_ _) | exact bc | exact rfl)) <;> (first | omega | (simp <;> omega)), (by (repeat' (first | (with_reducible exact HT.out) | (with_reducible refine' TapeAt.alloc ?_ _) | (with_reducible refine' TapeAt.drew ?_) | (with_reducible refine' TapeAt.drewN ?_ _) | (with_reducible refine' TapeAt.set ?_ ?_ _))) <;> (first | omega | (simp <;> omega))), by (repeat' (first | (with_reducible exact K5) | (with_reducible refine Below.setCell ?_ ?_ _) | (with_reducible refine Below.alloc ?_ ?_ _) | (with_reducible refine Below.drew ?_) | (with_reducible refine below_drewN ?_ _))) <;> (first | omega | (simp <;> omega))⟩
      · obtain rfl : k = 10 := by omega
        go_wp2_with fail
        refine (known38_any _).mono ?_
        rintro e w2 ⟨rfl, hb2⟩
        have K2 : Below w.heap.size w w2 := kept_call hb2 (by (repeat' (first | (with_reducible exact KR) | (with_reducible refine Below.setCell ?_ ?_ _) | (with_reducible refine Below.alloc ?_ ?_ _) | (with_reducible refine Below.drew ?_) | (with_reducible refine below_drewN ?_ _))) <;> (first | omega | (simp <;> omega)))
        have Z2 : w.heap.size ≤ w2.heap.size := K2.size
        have bk' := Blk.keep (g := gk) hb2 (by (repeat' (first | (with_reducible refine' Blk.alloc ?_ _) | (with_reducible refine' Blk.drew ?_) | (with_reducible refine' Blk.drewN ?_ _) | (with_reducible refine' Blk.put ?_ ?_) | (with_reducible refine' Blk.far ?_ ?_ _) | exact bk | exact rfl)) <;> (first | omega | (simp <;> omega)))
        (try simp only [List.setIfInBounds_toArray, List.set_cons_zero, List.set_cons_succ] at bk')
        have bc' := Blk.keep (g := gc) hb2 (by (repeat' (first | (with_reducible refine' Blk.alloc ?_ _) | (with_reducible refine' Blk.drew ?_) | (with_reducible refine' Blk.drewN ?_ _) | (with_reducible refine' Blk.put ?_ ?_) | (with_reducible refine' Blk.far ?_ ?_ _) | exact bc | exact rfl)) <;> (first | omega | (simp <;> omega)))
        (try simp only [List.setIfInBounds_toArray, List.set_cons_zero, List.set_cons_succ] at bc')
        have ht2 := TapeAt.below (by (repeat' (first | (with_reducible exact HT.out) | (with_reducible refine' TapeAt.alloc ?_ _) | (with_reducible refine' TapeAt.drew ?_) | (with_reducible refine' TapeAt.drewN ?_ _) | (with_reducible refine' TapeAt.set ?_ ?_ _))) <;> (first | omega | (simp <;> omega))) hb2
        clear HT; have T2 := ht2.lt; have HT := Lib.hid ht2; clear ht2
        clear hb2 KR
        clear bk ck fk lk ek kk; have bk := bk'; clear bk'
        clear bc cc fc lc ec kc; have bc := bc'; clear bc'
        obtain ⟨ck, fk, lk, ek, kk⟩ := Blk.facts bk
        obtain ⟨cc, fc, lc, ec, kc⟩ := Blk.facts bc
        go_wp2
        go_ret
        exact ⟨rfl, by (repeat' (first | (with_reducible exact K2) | (with_reducible refine Below.setCell ?_ ?_ _) | (with_reducible refine Below.alloc ?_ ?_ _) | (with_reducible refine Below.drew ?_) | (with_reducible refine below_drewN ?_ _))) <;> (first | omega | (simp <;> omega))⟩
theorem aim_walk (A : Option Addr) (len cap : Nat) (zs : List Int) {w : World} (hA : IntsAt w A len zs) (W : World) (h : W = w) :
    Walked 9 #[.slice A len cap] W := by
  subst h; exact aim_core A len cap zs W hA
end Go.Proofs.Ytnjogepllhjcjaa
