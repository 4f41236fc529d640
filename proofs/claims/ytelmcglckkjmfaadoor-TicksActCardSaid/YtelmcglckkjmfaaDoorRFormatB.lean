/- The reference's Format. -/
import Derived.Test.YtelmcglckkjmfaaDoorRFormat
namespace Go.Proofs.YtelmcglckkjmfaaDoor
open Go.RowKit
set_option linter.unusedSimpArgs false
set_option linter.unusedVariables false

theorem dec_len (u : Nat) (h : u ≤ 1099511627776) : (Lib.decDigits u).length ≤ 13 := by
  have := (itoa_len (u : Int) 13 (by omega) (by omega) (by omega)).2 (by omega)
  rw [Lib.itoa, if_neg (by omega)] at this
  simpa using this
theorem dec_one (u : Nat) : decGo u 1 [] = Lib.decDigits u := by
  have := decDigits_pos u
  rw [decGo_pad 0 u, show 0 + 1 - (Lib.decDigits u).length = 0 by omega]; rfl
theorem fmt_neg (t : Int) (m p : Nat) (hm : t / 1048576 = -(m : Int)) (hp : t % 1048576 = p) (h : 0 < m) : fmtS t = 45 :: Lib.decDigits m ++ [46] ++ decGo p 7 [] := by
  unfold fmtS
  rw [hm, hp, Lib.itoa, if_pos (by omega), Lib.itoa, if_neg (by omega), decGo_pad 6 p]
  simp
theorem fmt_pos (t : Int) (m p : Nat) (hm : t / 1048576 = (m : Int)) (hp : t % 1048576 = p) : fmtS t = Lib.decDigits m ++ [46] ++ decGo p 7 [] := by
  unfold fmtS
  rw [hm, hp, Lib.itoa, if_neg (by omega), Lib.itoa, if_neg (by omega), decGo_pad 6 p]
  simp
theorem pad_len (p : Nat) (h : p < 1048576) : (decGo p 7 []).length = 7 := by
  have h1 := (itoa_len (p : Int) 7 (by omega) (by omega) (by omega)).2 (by omega)
  rw [Lib.itoa, if_neg (by omega)] at h1
  rw [decGo_pad 6 p, List.length_append, Lib.repeatL_length]
  simp at h1 ⊢
  omega

set_option maxRecDepth 100000 in
set_option maxHeartbeats 4000000 in
theorem rformat_any (t : Int) (hv : vT t = true) (w : World) :
    Calls Tryd.prog 35 #[.int .i64 t] w (RB w (.string ⟨(fmtS t).toArray⟩)) := by
  have hb := vT_true.1 hv
  have r1 := rsecond_any t (by omega) (by omega)
  have r2 := rpart_any t (by omega) (by omega)
  obtain ⟨p, hp⟩ : ∃ p : Nat, t % 1048576 = p := ⟨(t % 1048576).toNat, by omega⟩
  have hp1 : p < 1048576 := by omega
  rw [hp] at r2
  have q2 := decimal_any p 7 (by omega) (by omega)
  have l2 := pad_len p hp1
  by_cases hs : t / 1048576 < 0
  · obtain ⟨m, hm⟩ : ∃ m : Nat, t / 1048576 = -(m : Int) := ⟨(-(t / 1048576)).toNat, by omega⟩
    rw [fmt_neg t m p hm hp (by omega)]
    have q1 := decimal_any m 1 (by omega) (by omega)
    rw [dec_one] at q1
    have l1 := dec_len m (by omega)
    rw [hm] at r1
    have m1 : 0 < (m : Int) := by omega
    have m2 : (m : Int) ≤ 1099511627776 := by omega
    have m3 : decide (-(m : Int) < 0) = true := by simp; omega
    generalize decGo p 7 [] = B at *
    generalize Lib.decDigits m = A at *
    have R1 := Lib.hid r1; have R2 := Lib.hid r2; have Q1 := Lib.hid q1; have Q2 := Lib.hid q2; clear r1 r2 q1 q2 hm hp hs hb hv
    go_enter Tryd.func35, Tryd.ntmps35
    go_wp2_with fail
    refine (R1.out _).mono ?_
    rintro e wq1 ⟨rfl, rfl⟩
    go_wp2_with fail
    refine (Q1.out _).mono ?_
    rintro e w1 ⟨rfl, K1⟩
    go_wp2_with fail
    refine (R2.out _).mono ?_
    rintro e wq2 ⟨rfl, rfl⟩
    go_wp2_with fail
    refine (Q2.out _).mono ?_
    rintro e w2 ⟨rfl, hb2⟩
    go_wp2
    go_ret
    exact ⟨by (simp; apply ByteArray.ext; simp), kept_call hb2 K1⟩
  · obtain ⟨m, hm⟩ : ∃ m : Nat, t / 1048576 = (m : Int) := ⟨(t / 1048576).toNat, by omega⟩
    rw [fmt_pos t m p hm hp]
    have q1 := decimal_any m 1 (by omega) (by omega)
    rw [dec_one] at q1
    have l1 := dec_len m (by omega)
    rw [hm] at r1
    have m2 : (m : Int) ≤ 1099511627776 := by omega
    have m3 : decide ((m : Int) < 0) = false := by simp
    generalize decGo p 7 [] = B at *
    generalize Lib.decDigits m = A at *
    have R1 := Lib.hid r1; have R2 := Lib.hid r2; have Q1 := Lib.hid q1; have Q2 := Lib.hid q2; clear r1 r2 q1 q2 hm hp hs hb hv
    go_enter Tryd.func35, Tryd.ntmps35
    go_wp2_with fail
    refine (R1.out _).mono ?_
    rintro e wq1 ⟨rfl, rfl⟩
    go_wp2_with fail
    refine (Q1.out _).mono ?_
    rintro e w1 ⟨rfl, K1⟩
    go_wp2_with fail
    refine (R2.out _).mono ?_
    rintro e wq2 ⟨rfl, rfl⟩
    go_wp2_with fail
    refine (Q2.out _).mono ?_
    rintro e w2 ⟨rfl, hb2⟩
    go_wp2
    go_ret
    exact ⟨by (simp; apply ByteArray.ext; simp), kept_call hb2 K1⟩
end Go.Proofs.YtelmcglckkjmfaaDoor
