/- Walks: drift.Rate and the reference's; plain law: the least bound. -/
import Derived.Test.YtfffhdcdkdaijaaFitsR
import Derived.Test.YtfffhdcdkdaijaaDriftR
namespace Go.Proofs.Ytfffhdcdkdaijaa
open Go.RowKit

theorem ceil_le (x e p : Int) (he : 0 < e) : quo x 1000000000 e true ≤ p ↔ x * 1000000000 ≤ p * e := by
  show -(-(x * 1000000000) / e) ≤ p ↔ _
  have h : (-p ≤ -(x * 1000000000) / e) ↔ (-p * e ≤ -(x * 1000000000)) := Int.le_ediv_iff_mul_le he
  rw [Int.neg_mul] at h
  constructor
  · intro k; have := h.1 (by omega); omega
  · intro k; have := h.2 (by omega); omega
/-- How far two advances are apart. -/
def apart (e d : Int) : Int := max (e - d) (d - e)
theorem fits_iff (e d p : Int) (he : 0 ≤ e) (he1 : e ≤ 1152921504606846976) (hd : 0 ≤ d) (hd1 : d ≤ 1152921504606846976) (hp : 0 ≤ p) (hp1 : p ≤ 1000000) :
    fitsP e d p ↔ apart e d * 1000000000 ≤ p * e := by
  unfold fitsP fitIn apart
  rw [Int.mul_sub, Int.mul_add, Int.mul_comm e p]
  generalize p * e = x
  omega
def rateN (e d : Int) : Int × Int :=
  if inD e 0 = false ∨ inD d 0 = false then (0, 4) else if apart e d = 0 then (0, 0) else if e < apart e d then (0, 10)
  else if 1000000 < quo (apart e d) 1000000000 e true then (0, 10) else (quo (apart e d) 1000000000 e true, 0)
section
variable {e d : Int}
theorem rate_1 (h : inD e 0 = false ∨ inD d 0 = false) : rateN e d = (0, 4) := by unfold rateN; rw [if_pos h]
theorem rate_2 (h1 : inD e 0 = true) (h2 : inD d 0 = true) (h : apart e d = 0) : rateN e d = (0, 0) := by unfold rateN; rw [if_neg (by rw [h1, h2]; simp), if_pos h]
theorem rate_3 (h1 : inD e 0 = true) (h2 : inD d 0 = true) (h : apart e d ≠ 0) (h' : e < apart e d) : rateN e d = (0, 10) := by unfold rateN; rw [if_neg (by rw [h1, h2]; simp), if_neg h, if_pos h']
theorem rate_4 (h1 : inD e 0 = true) (h2 : inD d 0 = true) (h : apart e d ≠ 0) (h' : ¬ e < apart e d) (h3 : 1000000 < quo (apart e d) 1000000000 e true) : rateN e d = (0, 10) := by
  unfold rateN; rw [if_neg (by rw [h1, h2]; simp), if_neg h, if_neg h', if_pos h3]
theorem rate_5 (h1 : inD e 0 = true) (h2 : inD d 0 = true) (h : apart e d ≠ 0) (h' : ¬ e < apart e d) (h3 : ¬ 1000000 < quo (apart e d) 1000000000 e true) : rateN e d = (quo (apart e d) 1000000000 e true, 0) := by
  unfold rateN; rw [if_neg (by rw [h1, h2]; simp), if_neg h, if_neg h', if_neg h3]
end
/-- The least bound is the rate. -/
theorem rate_none (e d : Int) (h1 : inD e 0 = true) (h2 : inD d 0 = true) (h : fitsB e d 1000000 = false) : rateN e d = (0, 10) := by
  obtain ⟨e0, e1, _, _⟩ := inD_true.1 h1
  obtain ⟨d0, d1, _, _⟩ := inD_true.1 h2
  have k : ¬ fitsP e d 1000000 := fun q => by rw [fitsB_yes q] at h; cases h
  rw [fits_iff e d 1000000 e0 (by omega) d0 (by omega) (by omega) (by omega)] at k
  have a0 : 0 ≤ apart e d := by unfold apart; omega
  have ha : apart e d ≠ 0 := by intro q; rw [q] at k; omega
  by_cases hb : e < apart e d
  · exact rate_3 h1 h2 ha hb
  · refine rate_4 h1 h2 ha hb ?_
    apply Int.not_le.1
    intro q
    exact k ((ceil_le _ e 1000000 (by omega)).1 q)
theorem rate_least (e d r : Int) (h1 : inD e 0 = true) (h2 : inD d 0 = true) (r0 : 0 ≤ r) (r1 : r ≤ 1000000) (h : fitsB e d r = true) (hl : ∀ p, 0 ≤ p → p < r → fitsB e d p = false) : rateN e d = (r, 0) := by
  obtain ⟨e0, e1, _, _⟩ := inD_true.1 h1
  obtain ⟨d0, d1, _, _⟩ := inD_true.1 h2
  have k := (fits_iff e d r e0 (by omega) d0 (by omega) r0 r1).1 (fitsB_true.1 h)
  have a0 : 0 ≤ apart e d := by unfold apart; omega
  have low : r = 0 ∨ ¬ (apart e d * 1000000000 ≤ (r - 1) * e) := by
    by_cases hr : r = 0
    · exact .inl hr
    · right; intro q
      have := hl (r - 1) (by omega) (by omega)
      rw [fitsB_yes ((fits_iff e d (r - 1) e0 (by omega) d0 (by omega) (by omega) (by omega)).2 q)] at this
      cases this
  by_cases ha : apart e d = 0
  · rw [rate_2 h1 h2 ha]
    rcases low with q | q
    · rw [q]
    · by_cases hr : r = 0
      · rw [hr]
      · exfalso; apply q; rw [ha, Int.zero_mul]
        exact Int.mul_nonneg (by omega) e0
  · have hr : r ≠ 0 := by intro q; rw [q, Int.zero_mul] at k; omega
    have he : 0 < e := by
      apply Int.not_le.1; intro q
      have : e = 0 := by omega
      have z : r * e = 0 := by rw [this, Int.mul_zero]
      omega
    have low' : ¬ (apart e d * 1000000000 ≤ (r - 1) * e) := by rcases low with q | q; exact absurd q hr; exact q
    have c1 := (ceil_le (apart e d) e r he).2 k
    have c2 : ¬ quo (apart e d) 1000000000 e true ≤ r - 1 := fun q => low' ((ceil_le _ e (r - 1) he).1 q)
    have hb : ¬ e < apart e d := by
      intro q
      have : r * e ≤ 1000000 * e := Int.mul_le_mul_of_nonneg_right r1 e0
      omega
    rw [rate_5 h1 h2 ha hb (by omega)]
    congr 1; omega

def rateV (e d : Int) : Value := .tuple #[.int .i64 (rateN e d).1, .int .i64 (rateN e d).2]
theorem rateV_of {e d r x : Int} (h : rateN e d = (r, x)) : rateV e d = .tuple #[.int .i64 r, .int .i64 x] := by unfold rateV; rw [h]
theorem quot_apart (a e : Int) (h0 : 0 ≤ a) (h1 : a ≤ e) (h2 : 0 < e) (h3 : e ≤ 576460752303423488) : a * 1000000000 / e ≤ 1000000000 := by
  have h : a * 1000000000 / e < 1000000001 := (Int.ediv_lt_iff_lt_mul h2).2 (by omega)
  omega
set_option maxHeartbeats 1000000 in
theorem rate_any (e d : Int) (w : World) : Calls Try.prog 26 #[.int .i64 e, .int .i64 d] w fun x w' => x = .returned (rateV e d) ∧ ∃ n, w' = w.drewN n := by
  rcases h1 : inD e 0
  · rw [rateV_of (rate_1 (.inl h1))]
    go_enter Try.func26, Try.ntmps26
    go_wp2_with (go_at_call 57; refine (in_any _ _ _).mono ?_; rintro e w1 ⟨rfl, rfl⟩)
    exact bodyPost_ret (v := .tuple #[.int .i64 (0), .int .i64 4]) (by simp [results, Try.results26, go_sem]) rfl ⟨rfl, 0, rfl⟩
  rcases h2 : inD d 0
  · rw [rateV_of (rate_1 (.inr h2))]
    go_enter Try.func26, Try.ntmps26
    go_wp2_with (go_at_call 57; refine (in_any _ _ _).mono ?_; rintro e w1 ⟨rfl, rfl⟩)
    exact bodyPost_ret (v := .tuple #[.int .i64 (0), .int .i64 4]) (by simp [results, Try.results26, go_sem]) rfl ⟨rfl, 0, rfl⟩
  obtain ⟨e0, e1, _, _⟩ := inD_true.1 h1
  obtain ⟨d0, d1, _, _⟩ := inD_true.1 h2
  have a0 : 0 ≤ apart e d := by unfold apart; omega
  have k1 := @rate_2 e d h1 h2
  have k2 := @rate_3 e d h1 h2
  have k3 := @rate_4 e d h1 h2
  have k4 := @rate_5 e d h1 h2
  have hm : max (e - d) (d - e) = apart e d := rfl
  generalize apart e d = a at *
  by_cases ha : a = 0
  · rw [rateV_of (k1 ha)]
    subst ha
    clear k1 k2 k3 k4
    go_enter Try.func26, Try.ntmps26
    go_wp2_with (go_at_call 57; refine (in_any _ _ _).mono ?_; rintro e w1 ⟨rfl, rfl⟩)
    exact bodyPost_ret (v := .tuple #[.int .i64 (0), .int .i64 0]) (by simp [results, Try.results26, go_sem]) rfl ⟨rfl, 0, rfl⟩
  have hz : (a == 0) = false := by simp [ha]
  by_cases hb : e < a
  · rw [rateV_of (k2 ha hb)]
    clear k1 k2 k3 k4
    go_enter Try.func26, Try.ntmps26
    go_wp2_with (go_at_call 57; refine (in_any _ _ _).mono ?_; rintro e w1 ⟨rfl, rfl⟩)
    exact bodyPost_ret (v := .tuple #[.int .i64 (0), .int .i64 10]) (by simp [results, Try.results26, go_sem]) rfl ⟨rfl, 0, rfl⟩
  have hb' : decide (e < a) = false := by simpa using hb
  have q0 := quot_apart a e a0 (by omega) (by omega) e1
  by_cases hc : 1000000 < quo a 1000000000 e true
  · rw [rateV_of (k3 ha hb hc)]
    have hbd : bdD (quo a 1000000000 e true) = false := by simp only [bdD, decide_eq_false_iff_not]; omega
    clear k1 k2 k3 k4
    go_enter Try.func26, Try.ntmps26
    go_wp2_with (first | (go_at_call 57; refine (in_any _ _ _).mono ?_; rintro e w1 ⟨rfl, rfl⟩) | (go_at_call 59; refine (bound_any _ _).mono ?_; rintro e w1 ⟨rfl, rfl⟩) | (go_at_call 58; refine (quotient_pos a 1000000000 e true _ (by omega) (by omega) (by omega) (by omega) (by omega) (by omega) (by omega)).mono ?_; rintro e w1 ⟨rfl, n, rfl⟩))
    exact bodyPost_ret (v := .tuple #[.int .i64 (0), .int .i64 10]) (by simp [results, Try.results26, go_sem]) rfl ⟨rfl, _, rfl⟩
  · rw [rateV_of (k4 ha hb hc)]
    have q1 : 0 ≤ quo a 1000000000 e true := by
      unfold quo; simp only [if_true]
      have : -(a * 1000000000) / e ≤ 0 := by
        have := Int.ediv_le_ediv (a := -(a * 1000000000)) (b := 0) (c := e) (by omega) (by omega)
        simpa using this
      omega
    have hbd : bdD (quo a 1000000000 e true) = true := by simp only [bdD, decide_eq_true_eq]; omega
    clear k1 k2 k3 k4
    go_enter Try.func26, Try.ntmps26
    go_wp2_with (first | (go_at_call 57; refine (in_any _ _ _).mono ?_; rintro e w1 ⟨rfl, rfl⟩) | (go_at_call 59; refine (bound_any _ _).mono ?_; rintro e w1 ⟨rfl, rfl⟩) | (go_at_call 58; refine (quotient_pos a 1000000000 e true _ (by omega) (by omega) (by omega) (by omega) (by omega) (by omega) (by omega)).mono ?_; rintro e w1 ⟨rfl, n, rfl⟩))
    exact bodyPost_ret (v := .tuple #[.int .i64 (quo a 1000000000 e true), .int .i64 0]) (by simp [results, Try.results26, go_sem]) rfl ⟨rfl, _, rfl⟩
end Go.Proofs.Ytfffhdcdkdaijaa
