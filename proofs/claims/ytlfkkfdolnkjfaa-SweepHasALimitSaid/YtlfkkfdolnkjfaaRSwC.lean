/- The reference's Least and Most, out of its Profile. -/
import Derived.Test.YtlfkkfdolnkjfaaRSwB
namespace Go.Proofs.Ytlfkkfdolnkjfaa
open Go.RowKit Go.Shelf Go.Sort
set_option linter.unusedSimpArgs false
set_option linter.unusedVariables false

theorem PX_cases {zs : List (Int × Int)} {ps : List Pc} (h : PX zs ps) : (ckE zs ≠ 0 ∧ ps = []) ∨ (ckE zs = 0 ∧ zs.length ≤ 64 ∧ PCan ps ∧ (∀ p ∈ ps, vS p.lo p.hi = true) ∧ (∀ p ∈ ps, 1 ≤ p.n ∧ p.n ≤ 64) ∧ ps.length ≤ 128) := by
  rcases h with h | ⟨h, h1, h2, h3⟩
  · exact .inl h
  · exact .inr ⟨h, (ckE_ok h).1, h1, pc_in h1 h2, pc_num h1 h2 (ckE_ok h).1, h3⟩
def RPf (A : Option Addr) (len cap : Nat) (zs : List (Int × Int)) (w : World) : Prop := ∀ W, Below w.heap.size w W → Calls Try.prog 38 #[.slice A len cap] W (PfR W zs)
set_option maxRecDepth 100000 in
set_option maxHeartbeats 1000000 in
theorem rLeast_of (A : Option Addr) (len cap : Nat) (zs : List (Int × Int)) (n : Int) (w : World) (HP : RPf A len cap zs w) :
    Calls Try.prog 39 #[.slice A len cap, .int .i64 n] w (LsR w zs n) := by
  have HPF := Lib.hid HP; clear HP
  go_enter Try.func39, Try.ntmps39
  go_wp2_with fail
  refine (HPF.out _ (by (repeat' (first | (with_reducible exact Below.refl _ _) | (with_reducible refine Below.setCell ?_ ?_ _) | (with_reducible refine Below.alloc ?_ ?_ _) | (with_reducible refine Below.drew ?_) | (with_reducible refine below_drewN ?_ _))) <;> (first | omega | (simp <;> omega)))).mono ?_
  rintro e w1 ⟨A1, c1, ps, rfl, hpp, hpx, hb1⟩
  have K1 : Below w.heap.size w w1 := kept_call hb1 (by (repeat' (first | (with_reducible exact Below.refl _ _) | (with_reducible refine Below.setCell ?_ ?_ _) | (with_reducible refine Below.alloc ?_ ?_ _) | (with_reducible refine Below.drew ?_) | (with_reducible refine below_drewN ?_ _))) <;> (first | omega | (simp <;> omega)))
  have Z1 : w.heap.size ≤ w1.heap.size := K1.size
  clear hb1
  have HPP := Lib.hid hpp; have HPX := Lib.hid hpx; clear hpp
  rcases PX_cases hpx with ⟨hc0, rfl⟩ | ⟨hc0, h64, hcan, hpv, hpn, h128⟩
  · have HB := Lib.hid hc0
    have HCI := ckE_in zs
    obtain ⟨c, hc⟩ : ∃ c, ckE zs = c := ⟨_, rfl⟩
    rw [hc] at hc0 HCI ⊢
    have g0 : decide (c = 0) = false := decide_eq_false hc0
    have g0b : (c == 0) = false := by simpa using hc0
    have g0c : (c != 0) = true := by simpa using hc0
    have HCC := Lib.hid hc; clear hc hc0 hpx
    go_wp2
    go_ret2
    exact ⟨none, 0, [], by rw [lE_bad HB.out, HCC.out]; rfl, sp_nil, .inl ⟨by rw [lE_bad HB.out]; exact HB.out, rfl⟩, by (repeat' (first | (with_reducible exact K1) | (with_reducible refine Below.setCell ?_ ?_ _) | (with_reducible refine Below.alloc ?_ ?_ _) | (with_reducible refine Below.drew ?_) | (with_reducible refine below_drewN ?_ _))) <;> (first | omega | (simp <;> omega))⟩
  · rw [hc0]
    have HC0 := Lib.hid hc0; clear hc0 hpx
    by_cases hn : n < 1
    · have gn : decide (n < 1) = true := decide_eq_true hn
      clear hcan hpv hpn
      go_wp2
      go_ret2
      exact ⟨none, 0, [], by rw [lE_low HC0.out hn]; rfl, sp_nil, .inl ⟨by rw [lE_low HC0.out hn]; decide, rfl⟩, by (repeat' (first | (with_reducible exact K1) | (with_reducible refine Below.setCell ?_ ?_ _) | (with_reducible refine Below.alloc ?_ ?_ _) | (with_reducible refine Below.drew ?_) | (with_reducible refine below_drewN ?_ _))) <;> (first | omega | (simp <;> omega))⟩
    · have gn : decide (n < 1) = false := decide_eq_false hn
      have HL := Lib.hid (fun W (hW : Below w1.heap.size w1 W) => rleastp_any A1 ps.length c1 ps n (by omega) hcan hpv h128 W (HPP.out.below hW))
      clear hcan hpv hpn
      go_wp2_with fail
      refine (HL.out _ (by (repeat' (first | (with_reducible exact Below.refl _ _) | (with_reducible refine Below.setCell ?_ ?_ _) | (with_reducible refine Below.alloc ?_ ?_ _) | (with_reducible refine Below.drew ?_) | (with_reducible refine below_drewN ?_ _))) <;> (first | omega | (simp <;> omega)))).mono ?_
      rintro e w2 ⟨A2, c2, rfl, hqq, hb2⟩
      have K2 : Below w.heap.size w w2 := kept_call hb2 (by (repeat' (first | (with_reducible exact K1) | (with_reducible refine Below.setCell ?_ ?_ _) | (with_reducible refine Below.alloc ?_ ?_ _) | (with_reducible refine Below.drew ?_) | (with_reducible refine below_drewN ?_ _))) <;> (first | omega | (simp <;> omega)))
      have Z2 : w.heap.size ≤ w2.heap.size := K2.size
      clear hb2 K1
      have HQQ := Lib.hid hqq; clear hqq
      go_wp2
      go_ret2
      exact ⟨A2, c2, _, by rw [lE_ok HC0.out (by omega)]; rfl, HQQ.out, .inr ⟨lE_ok HC0.out (by omega), HC0.out, by omega, ps, HPX.out, rfl⟩, by (repeat' (first | (with_reducible exact K2) | (with_reducible refine Below.setCell ?_ ?_ _) | (with_reducible refine Below.alloc ?_ ?_ _) | (with_reducible refine Below.drew ?_) | (with_reducible refine below_drewN ?_ _))) <;> (first | omega | (simp <;> omega))⟩
set_option maxRecDepth 100000 in
set_option maxHeartbeats 2000000 in
theorem rMost_of (A : Option Addr) (len cap : Nat) (zs : List (Int × Int)) (w : World) (HP : RPf A len cap zs w) :
    Calls Try.prog 40 #[.slice A len cap] w (MsR w zs) := by
  have HPF := Lib.hid HP; clear HP
  go_enter Try.func40, Try.ntmps40
  go_wp2_with fail
  refine (HPF.out _ (by (repeat' (first | (with_reducible exact Below.refl _ _) | (with_reducible refine Below.setCell ?_ ?_ _) | (with_reducible refine Below.alloc ?_ ?_ _) | (with_reducible refine Below.drew ?_) | (with_reducible refine below_drewN ?_ _))) <;> (first | omega | (simp <;> omega)))).mono ?_
  rintro e w1 ⟨A1, c1, ps, rfl, hpp, hpx, hb1⟩
  have K1 : Below w.heap.size w w1 := kept_call hb1 (by (repeat' (first | (with_reducible exact Below.refl _ _) | (with_reducible refine Below.setCell ?_ ?_ _) | (with_reducible refine Below.alloc ?_ ?_ _) | (with_reducible refine Below.drew ?_) | (with_reducible refine below_drewN ?_ _))) <;> (first | omega | (simp <;> omega)))
  have Z1 : w.heap.size ≤ w1.heap.size := K1.size
  clear hb1
  have HPP := Lib.hid hpp; have HPX := Lib.hid hpx; clear hpp
  rcases PX_cases hpx with ⟨hc0, rfl⟩ | ⟨hc0, h64, hcan, hpv, hpn, h128⟩
  · have HB := Lib.hid hc0
    have HCI := ckE_in zs
    obtain ⟨c, hc⟩ : ∃ c, ckE zs = c := ⟨_, rfl⟩
    rw [hc] at hc0 HCI ⊢
    have g0 : decide (c = 0) = false := decide_eq_false hc0
    have g0b : (c == 0) = false := by simpa using hc0
    have g0c : (c != 0) = true := by simpa using hc0
    have HCC := Lib.hid hc; clear hc hc0 hpx
    go_wp2
    refine bodyPost_ret (v := .tuple #[.int .i64 0, .slice none 0 0, .int .i64 c]) (by simp [results, Try.results40, go_sem, *]) rfl ?_
    exact ⟨0, none, 0, [], by rw [HCC.out]; rfl, sp_nil, .inl ⟨HB.out, rfl, rfl⟩, by (repeat' (first | (with_reducible exact K1) | (with_reducible refine Below.setCell ?_ ?_ _) | (with_reducible refine Below.alloc ?_ ?_ _) | (with_reducible refine Below.drew ?_) | (with_reducible refine below_drewN ?_ _))) <;> (first | omega | (simp <;> omega))⟩
  · rw [hc0]
    have HC0 := Lib.hid hc0; clear hc0 hpx
    have HPN := Lib.hid hpn; have HPV := Lib.hid hpv; have HCAN := Lib.hid hcan; clear hpn hpv hcan
    go_wp2
    go_loopg [7, 8] ps.length (fun G v i wr => MoRel w1 ps G v i wr)
    case atStart => exact ⟨0, by omega, by omega, rfl, rfl, by (repeat' (first | (with_reducible exact Below.refl _ _) | (with_reducible refine Below.setCell ?_ ?_ _) | (with_reducible refine Below.alloc ?_ ?_ _) | (with_reducible refine Below.drew ?_) | (with_reducible refine below_drewN ?_ _))) <;> (first | omega | (simp <;> omega))⟩
    case round =>
      obtain ⟨q, hq, rfl, rfl, rfl, KR⟩ := hrel
      have ZR := KR.size
      have KW : Below w.heap.size w wr := kept_call KR K1
      have hmb := mostP_in (ps := ps.take q) (fun p hp => HPN.out p (List.mem_of_mem_take hp))
      obtain ⟨mb1, mb2, -, -, -⟩ := hmb
      by_cases hlt : q < ps.length
      · have gk : decide ((q : Int) < (ps.length : Int)) = true := decide_eq_true (by omega)
        have wq : IntKind.i64.wrap ((q : Int) + 1) = ((q + 1 : Nat) : Int) := by rw [IntWalk.i64_in _ (by omega)]; omega
        obtain ⟨bl, off, rfl, hb, hcs⟩ := HPP.out.2.2 (by omega)
        obtain ⟨e0, e1, e2⟩ := hcs q hlt
        clear hcs
        have e2 := (KR.cell (p := ⟨bl, off + q * 3 + 2, none⟩) hb).trans e2
        have hbW : bl < wr.heap.size := by omega
        have hsn : mostP (ps.take (q + 1)) = max (mostP (ps.take q)) (ps.getD q ⟨0, 0, 0⟩).n := by rw [take_snocC ⟨0, 0, 0⟩ ps hlt, mostP_snoc]
        clear e0 e1
        generalize ps.getD q ⟨0, 0, 0⟩ = z at *
        obtain ⟨x, y, n⟩ := z
        dsimp only at e2 hsn
        have HSN := Lib.hid hsn; clear hsn
        go_wp2
        go_roundg (ps.length - (q + 1))
        case measure => omega
        case rel => exact ⟨q + 1, by omega, by omega, by go_num, by rw [HSN.out], by (repeat' (first | (with_reducible exact KR) | (with_reducible refine Below.setCell ?_ ?_ _) | (with_reducible refine Below.alloc ?_ ?_ _) | (with_reducible refine Below.drew ?_) | (with_reducible refine below_drewN ?_ _))) <;> (first | omega | (simp <;> omega))⟩
      · obtain rfl : ps.length = q := by omega
        have gk : decide ((ps.length : Int) < (ps.length : Int)) = false := decide_eq_false (by omega)
        have ht : mostP (ps.take ps.length) = mostP ps := by rw [List.take_length]
        obtain ⟨-, -, -, hm0, -⟩ := mostP_in (ps := ps) HPN.out
        rw [ht] at mb1 mb2 ⊢
        clear ht
        obtain ⟨m, hm⟩ : ∃ m, mostP ps = m := ⟨_, rfl⟩
        rw [hm] at mb1 mb2 hm0 ⊢
        have HM := Lib.hid hm; have HM0 := Lib.hid hm0; clear hm hm0
        by_cases k0 : m = 0
        · have HPS := Lib.hid (HM0.out k0)
          subst k0
          clear HM0
          go_wp2
          refine bodyPost_ret (v := .tuple #[.int .i64 0, .slice none 0 0, .int .i64 0]) (by simp [results, Try.results40, go_sem, *]) rfl ?_
          refine ⟨0, none, 0, [], by rw [HC0.out]; rfl, sp_nil, .inr ⟨HC0.out, ps, HPX.out, HM.out.symm, by rw [HPS.out]; rfl⟩, by (repeat' (first | (with_reducible exact KW) | (with_reducible refine Below.setCell ?_ ?_ _) | (with_reducible refine Below.alloc ?_ ?_ _) | (with_reducible refine Below.drew ?_) | (with_reducible refine below_drewN ?_ _))) <;> (first | omega | (simp <;> omega))⟩
        · have g0 : decide (m = 0) = false := decide_eq_false k0
          have g0b : (m == 0) = false := by simpa using k0
          have HL := Lib.hid (fun W (hW : Below w1.heap.size w1 W) => rleastp_any A1 ps.length c1 ps m (by omega) HCAN.out HPV.out h128 W (HPP.out.below hW))
          go_wp2_with fail
          refine (HL.out _ (by (repeat' (first | (with_reducible exact KR) | (with_reducible refine Below.setCell ?_ ?_ _) | (with_reducible refine Below.alloc ?_ ?_ _) | (with_reducible refine Below.drew ?_) | (with_reducible refine below_drewN ?_ _))) <;> (first | omega | (simp <;> omega)))).mono ?_
          rintro e w3 ⟨A3, c3, rfl, hqq, hb3⟩
          have K3 : Below w.heap.size w w3 := kept_call hb3 (by (repeat' (first | (with_reducible exact KW) | (with_reducible refine Below.setCell ?_ ?_ _) | (with_reducible refine Below.alloc ?_ ?_ _) | (with_reducible refine Below.drew ?_) | (with_reducible refine below_drewN ?_ _))) <;> (first | omega | (simp <;> omega)))
          have HQQ := Lib.hid hqq; clear hqq hb3
          go_wp2
          refine bodyPost_ret (v := .tuple #[.int .i64 m, .slice A3 (leastP m ps).length c3, .int .i64 0]) (by simp [results, Try.results40, go_sem, *]) rfl ?_
          exact ⟨m, A3, c3, _, by rw [HC0.out], HQQ.out, .inr ⟨HC0.out, ps, HPX.out, HM.out.symm, rfl⟩, by (repeat' (first | (with_reducible exact K3) | (with_reducible refine Below.setCell ?_ ?_ _) | (with_reducible refine Below.alloc ?_ ?_ _) | (with_reducible refine Below.drew ?_) | (with_reducible refine below_drewN ?_ _))) <;> (first | omega | (simp <;> omega))⟩
end Go.Proofs.Ytlfkkfdolnkjfaa
