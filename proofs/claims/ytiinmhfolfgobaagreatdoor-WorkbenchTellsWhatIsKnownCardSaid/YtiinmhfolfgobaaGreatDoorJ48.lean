/- Texts joined: WkK, WkV -/
import Derived.Test.YtiinmhfolfgobaaGreatDoorJ46
import Derived.Test.YtiinmhfolfgobaaGreatDoorWkR
namespace Go.Proofs.YtiinmhfolfgobaaGreatDoor
open Go.RowKit Go.Lib
set_option linter.unusedSimpArgs false
set_option linter.unusedVariables false

/-- Where nothing is saved. -/
def noSave : Sv := fun b _ _ _ => (b, 0)
def kTxt : List UInt8 := [115, 111, 117, 114, 99, 101, 115, 32, 49, 32, 48, 10, 115, 97, 109, 112, 108, 101, 32, 48, 32, 49, 48, 48, 32, 49, 54, 48, 32, 49, 55, 48, 32, 49, 51, 48, 32, 50, 10, 110, 111, 119, 32, 49, 51, 49, 10, 114, 101, 97, 100, 32, 48, 32, 49, 51, 49, 10]
def kRep : List UInt8 := [115, 111, 117, 114, 99, 101, 115, 32, 49, 32, 48, 10, 108, 101, 97, 114, 110, 116, 32, 48, 32, 49, 54, 56, 32, 49, 57, 50, 10, 115, 112, 97, 110, 32, 49, 54, 57, 32, 49, 57, 51, 10, 99, 108, 111, 99, 107, 32, 49, 54, 57, 32, 102, 114, 101, 101, 10]
def kLns : List (List UInt8) := [lnW wSources [1, 0], lnW wSample [0, 100, 160, 170, 130, 2], lnW wNow [131], lnW wRead [0, 131]]
theorem kTxt_is : kTxt = lnsT kLns := by
  simp [kTxt, kLns, lnsT, lnW, numL, itoa, decDigits, wSources, wSample, wNow, wRead]
theorem atT_k : atT 100 160 170 130 2 0 = (168, 192, 0) := by
  have h0 := (el_none (d := (30 : Int)) ).2
  unfold atT
  rw [show exE 100 160 170 130 2 = 0 by decide, if_pos rfl, show (130 : Int) - 100 = 30 by decide, h0]
  rw [if_pos (by decide), if_neg (by decide)]
  rfl
def kK : K6 := ⟨130, 168, 192, 0, 0, 0⟩
theorem beg_k : begK 130 168 192 0 = kK ∧ kE 130 168 192 0 0 0 = 0 := by
  have h : kE 130 168 192 0 0 0 = 0 := by decide
  exact ⟨by unfold begK; rw [if_pos h]; rfl, h⟩
theorem now_k : nowK 131 kK = (169, 193, 0) := by
  have h : kE 130 168 192 0 0 0 = 0 := by decide
  show nowT 130 168 192 0 0 0 131 = _
  rw [nowT_ok h (by decide) (by decide), show (131 : Int) - 130 = 1 by decide, (el_none (d := (1 : Int))).1, (el_none (d := (1 : Int))).2]
  decide
theorem mg_one {k : K6} {u x y : Int} (h : nowK u k = (x, y, 0)) (hv : vS x y = true) : mgO [k] u 0 = (x, y, 0) := by
  have hm := mgO_spec [k] u 0
  obtain ⟨x', y', er, hxy⟩ : ∃ x' y' er, mgO [k] u 0 = (x', y', er) := ⟨_, _, _, rfl⟩
  rw [hxy] at hm ⊢
  dsimp only at hm
  have hs : [k].map (spK u) = [(x, y)] := by simp [spK, h]
  have hle := (vS_true.1 hv).2.1
  rcases hm with ⟨h1, -⟩ | ⟨-, i, hi, -, hne, -⟩ | ⟨-, -, hax⟩
  · simp at h1
  · have : i = 0 := by simp at hi; omega
    subst this
    exact absurd (by show (nowK u k).2.2 = 0; rw [h]) hne
  · rw [hs] at hax
    have hck : ckE [(x, y)] = 0 := ckE_0 (by simp) (bad_of (fun z hz => by simp at hz; subst hz; exact hv))
    have hq : qE [(x, y)] 0 = 0 := qE_ok hck (by simp)
    have hin : ∀ t, x ≤ t → t ≤ y → cntS [(x, y)] t = 1 := fun t h1 h2 => by rw [cntS_cons]; simp [inS, hv, h1, h2, cntS]
    obtain ⟨e0, a1, a2, a3⟩ := AX_truth hax hq (t := x) (by rw [hin x (Int.le_refl _) hle]; simp)
    obtain ⟨-, b1, b2, -⟩ := AX_truth hax hq (t := y) (by rw [hin y hle (Int.le_refl _)]; simp)
    obtain ⟨-, c1, c2, -⟩ := AX_ends hax e0
    have hout : ∀ t, 1 ≤ cntS [(x, y)] t → x ≤ t ∧ t ≤ y := fun t ht => by
      rw [cntS_cons] at ht
      by_cases hi : inS t (x, y) = true
      · simp [inS] at hi; exact ⟨hi.2.1, hi.2.2⟩
      · rw [if_neg hi] at ht; simp [cntS] at ht
    have d1 := hout x' (by simpa using c1)
    have d2 := hout y' (by simpa using c2)
    have e1 : x' = x := by omega
    have e2 : y' = y := by omega
    rw [e1, e2, e0]
theorem known_script (sv : Sv) : scriptV sv kTxt = (kRep, 0, 0) := by
  have hl : cutAt 10 (trimSuffix kTxt [10]) = kLns := by
    rw [kTxt_is]
    refine script_lns sv _ (by simp [kLns]) (fun l hl => ?_)
    simp only [kLns, List.mem_cons, List.mem_nil_iff, or_false] at hl
    rcases hl with rfl | rfl | rfl | rfl
    · exact fun h => (ln_chars .sources _ _ h).2 rfl
    · exact fun h => (ln_chars .sample _ _ h).2 rfl
    · exact fun h => (ln_chars .now _ _ h).2 rfl
    · exact fun h => (ln_chars .read _ _ h).2 rfl
  unfold scriptV
  rw [hl, if_neg (by decide), if_neg (by decide)]
  have sm : ∀ ns : List Int, (∀ n ∈ ns, 0 ≤ n ∧ n ≤ 1000) → ∀ n ∈ ns, small17 n := fun ns h n hn => ⟨by have := (h n hn).1; omega, by have := (h n hn).2; omega⟩
  have hm := mg_one now_k (by decide)
  let b1 : Bn := ⟨true, [(false, .zero)], 0, 0, .zero, sayL wSources [1, 0]⟩
  let b2 : Bn := ⟨true, [(true, kK)], 0, 0, .zero, sayL wSources [1, 0] ++ sayL wLearnt [0, 168, 192]⟩
  let b3 : Bn := ⟨true, [(true, kK)], 0, 0, .zero, b2.out ++ sayL wSpan [169, 193]⟩
  have e1 : Bn.zero.run sv .sources [1, 0] = (b1, 0) := by
    show Bn.zero.sources 1 0 = _
    unfold Bn.sources
    rw [if_pos (by decide)]; rfl
  have e2 : b1.run sv .sample [0, 100, 160, 170, 130, 2] = (b2, 0) := by
    show b1.sample 0 100 160 170 130 2 = _
    unfold Bn.sample
    rw [if_pos (by decide)]
    show b1.heard 0 130 (atT 100 160 170 130 2 0) = _
    rw [atT_k]
    unfold Bn.heard
    rw [if_pos rfl]
    show b1.took 0 168 192 (kE 130 168 192 0 0 0, true, begK 130 168 192 0) = _
    rw [beg_k.1, beg_k.2]
    unfold Bn.took
    rw [if_pos rfl]; rfl
  have e3 : b2.run sv .now [131] = (b3, 0) := by
    show b2.nowT (mgO [kK] 131 0) = _
    rw [hm]
    unfold Bn.nowT
    rw [if_pos rfl]; rfl
  have hrd : readK ⟨0, 1000000, false, false, 0, 0⟩ 131 169 193 = ⟨0, 1000000, true, false, 131, 169⟩ := by unfold readK; rw [if_pos (by decide)]; rfl
  have e4 : b3.run sv .read [0, 131] = (b3.shows ⟨0, 1000000, true, false, 131, 169⟩, 0) := by
    show b3.readT 0 131 (mgO [kK] 131 0) = _
    rw [hm]
    unfold Bn.readT
    rw [if_pos rfl, if_pos (by decide)]
    show (b3.shows (readK ⟨0, 1000000, false, false, 0, 0⟩ 131 169 193), _) = _
    rw [hrd]
  show Bn.lines sv .zero 0 (lnW (Cmd.word .sources) [1, 0] :: lnW (Cmd.word .sample) [0, 100, 160, 170, 130, 2] :: lnW (Cmd.word .now) [131] :: lnW (Cmd.word .read) [0, 131] :: []) = _
  rw [lines_cmd sv _ _ .sources [1, 0] _ rfl (sm _ (by decide)) (by rw [e1]), e1, lines_cmd sv _ _ .sample _ _ rfl (sm _ (by decide)) (by rw [e2]), e2, lines_cmd sv _ _ .now _ _ rfl (sm _ (by decide)) (by rw [e3]), e3, lines_cmd sv _ _ .read _ _ rfl (sm _ (by decide)) (by rw [e4]), e4]
  show (b3.out ++ sayL (wClock ++ itoa 169 ++ wFree) [], (0 : Int), (0 : Int)) = _
  congr 1
  have i0 : itoa 0 = [48] := by simp [itoa, decDigits]
  have i1 : itoa 1 = [49] := by simp [itoa, decDigits]
  have i2 : itoa 168 = [49, 54, 56] := by simp [itoa, decDigits]
  have i3 : itoa 192 = [49, 57, 50] := by simp [itoa, decDigits]
  have i4 : itoa 169 = [49, 54, 57] := by simp [itoa, decDigits]
  have i5 : itoa 193 = [49, 57, 51] := by simp [itoa, decDigits]
  simp only [b3, b2, sayL, List.flatMap_cons, List.flatMap_nil, i0, i1, i2, i3, i4, i5]
  rfl
theorem good_k : ∀ l ∈ cutAt 10 (trimSuffix kTxt [10]), GoodL noSave l := by
  have hl : cutAt 10 (trimSuffix kTxt [10]) = kLns := by
    rw [kTxt_is]
    refine script_lns noSave _ (by simp [kLns]) (fun l hl => ?_)
    simp only [kLns, List.mem_cons, List.mem_nil_iff, or_false] at hl
    rcases hl with rfl | rfl | rfl | rfl
    · exact fun h => (ln_chars .sources _ _ h).2 rfl
    · exact fun h => (ln_chars .sample _ _ h).2 rfl
    · exact fun h => (ln_chars .now _ _ h).2 rfl
    · exact fun h => (ln_chars .read _ _ h).2 rfl
  have sm : ∀ ns : List Int, (∀ n ∈ ns, 0 ≤ n ∧ n ≤ 1000) → ∀ n ∈ ns, small17 n := fun ns h n hn => ⟨by have := (h n hn).1; omega, by have := (h n hn).2; omega⟩
  rw [hl]
  intro l hl
  simp only [kLns, List.mem_cons, List.mem_nil_iff, or_false] at hl
  rcases hl with rfl | rfl | rfl | rfl
  · exact goodL_cmd noSave .sources _ (by intro h; cases h) (sm _ (by decide))
  · exact goodL_cmd noSave .sample _ (by intro h; cases h) (sm _ (by decide))
  · exact goodL_cmd noSave .now _ (by intro h; cases h) (sm _ (by decide))
  · exact goodL_cmd noSave .read _ (by intro h; cases h) (sm _ (by decide))

set_option maxHeartbeats 4000000 in
set_option maxRecDepth 100000 in
theorem known43_any (w : World) (hpow : Pow10 w) (hml : MaxLenAt w) : Calls Tryz.prog 11 #[] w (RB w (.bool true)) := by
  have R := run43_any noSave ⟨kTxt.toArray⟩ w hpow hml (by decide) (by simpa using good_k)
  rw [show (⟨kTxt.toArray⟩ : ByteArray).data.toList = kTxt from rfl, known_script] at R
  have R1 := Lib.hid R
  clear R hpow hml
  unfold scR at R1
  dsimp only at R1
  go_enter Tryz.func11, Tryz.ntmps11
  go_wp2_with fail
  refine R1.out.mono ?_
  rintro e w1 ⟨rfl, hb1⟩
  go_wp2
  go_ret
  exact ⟨rfl, hb1⟩
end Go.Proofs.YtiinmhfolfgobaaGreatDoor
namespace Go.Proofs.YtiinmhfolfgobaaGreatDoor
open Go.RowKit Go.Lib
set_option linter.unusedSimpArgs false
set_option linter.unusedVariables false

theorem now_gen8 {P u ka klo khi : Int} (p0 : 0 ≤ P) (p1 : P ≤ 1000000) (a0 : -1000000000 ≤ ka) (a1 : ka ≤ u) (hu : u ≤ 1000000000) (h0 : -1000000000 ≤ klo) (h1 : klo ≤ khi) (h2 : khi ≤ 1000000000) :
    ∃ x y, nowT ka klo khi P 0 0 u = (x, y, 0) ∧ vS x y = true ∧ klo ≤ x ∧ x ≤ y ∧ y ≤ khi + 2 * (u - ka) ∧ kE ka klo khi P 0 0 = 0 := by
  have d0 : 0 ≤ u - ka := by omega
  have X1 := lo_pos d0 p0 p1
  have X2 := hi_two d0 p0 p1
  have X3 := le_hi d0 p0 p1
  have X4 := lo_le d0 p0 p1
  have hv : vS klo khi = true := vS_true.2 ⟨by omega, by omega, by omega⟩
  have hv2 : vS (klo + elLo (u - ka) P) (khi + elHi (u - ka) P) = true := vS_true.2 ⟨by omega, by omega, by omega⟩
  have hk : kE ka klo khi P 0 0 = 0 := kE_0 hv (vT_true.2 ⟨by omega, by omega⟩) p0 p1 (by decide) (by decide)
  refine ⟨klo + elLo (u - ka) P, khi + elHi (u - ka) P, ?_, hv2, by omega, by omega, by omega, hk⟩
  rw [nowT_ok hk (by omega) (vT_true.2 ⟨by omega, by omega⟩), hv]
  unfold opT
  rw [inD_true.2 ⟨by omega, by omega, p0, p1⟩, hv2]
  rfl
theorem at_small {t1 t2 t3 t4 er p : Int} (a0 : 0 ≤ t1) (a1 : t1 < 50) (b0 : 1000 ≤ t2) (b1 : t2 < 1090) (c0 : t2 ≤ t3) (c1 : t3 < t2 + 50) (d0 : t1 ≤ t4) (d1 : t4 < t1 + 90) (e0 : 0 ≤ er) (e1 : er < 30) (p0 : 0 ≤ p) (p1 : p ≤ 1000000) :
    atT t1 t2 t3 t4 er p = (0, 0, 20) ∨ ∃ lo hi, atT t1 t2 t3 t4 er p = (lo, hi, 0) ∧ 900 ≤ lo ∧ lo ≤ hi ∧ hi ≤ 2000 := by
  have v1 : vT t1 = true := vT_true.2 ⟨by omega, by omega⟩
  have v2 : vT t2 = true := vT_true.2 ⟨by omega, by omega⟩
  have v3 : vT t3 = true := vT_true.2 ⟨by omega, by omega⟩
  have v4 : vT t4 = true := vT_true.2 ⟨by omega, by omega⟩
  have hx : exE t1 t2 t3 t4 er = 0 := by
    unfold exE
    rw [if_pos (by simp [v1, v2, v3, v4]; omega), if_neg (by omega)]
  have g0 : 0 ≤ t4 - t1 := by omega
  have X2 := hi_two g0 p0 p1
  have X3 := le_hi g0 p0 p1
  have hd : inD (t4 - t1) p = true := inD_true.2 ⟨by omega, by omega, p0, p1⟩
  have w1 : vT (t3 - er) = true := vT_true.2 ⟨by omega, by omega⟩
  have w2 : vT (t2 + er + elHi (t4 - t1) p) = true := vT_true.2 ⟨by omega, by omega⟩
  unfold atT
  rw [if_pos hx, hd, w1, w2]
  by_cases hlt : t2 + er + elHi (t4 - t1) p < t3 - er
  · left; simp [hlt]
  · right; exact ⟨t3 - er, t2 + er + elHi (t4 - t1) p, by simp [hlt], by omega, by omega, by omega⟩
theorem mgO_nil (u : Int) : mgO [] u 0 = (0, 0, 4) := by
  have hq : qE [] 0 = 4 := qE_range (by decide) (.inr (by decide))
  exact mgO_of (.inr (.inr ⟨by decide, fun j hj => by simp at hj, .inl ⟨by show qE [] 0 ≠ 0; rw [hq]; decide, rfl, rfl, hq.symm⟩⟩))
def sLs (p t1 t2 t3 t4 er u : Int) : List (List UInt8) := [lnW wSources [1, 0], lnW wDrift [p], lnW wSample [0, t1, t2, t3, t4, er], lnW wNow [u]]
def sT (p t1 t2 t3 t4 er u : Int) : List UInt8 := (lnW wSources [1, 0] ++ [10]) ++ (lnW wDrift [p] ++ [10]) ++ (lnW wSample [0, t1, t2, t3, t4, er] ++ [10]) ++ (lnW wNow [u] ++ [10])
theorem sT_is (p t1 t2 t3 t4 er u : Int) : sT p t1 t2 t3 t4 er u = lnsT (sLs p t1 t2 t3 t4 er u) := by simp [sT, sLs, lnsT]
theorem sT_cut (p t1 t2 t3 t4 er u : Int) : cutAt 10 (trimSuffix (sT p t1 t2 t3 t4 er u) [10]) = sLs p t1 t2 t3 t4 er u := by
  rw [sT_is]
  refine script_lns noSave _ (by simp [sLs]) (fun l hl => ?_)
  simp only [sLs, List.mem_cons, List.mem_nil_iff, or_false] at hl
  rcases hl with rfl | rfl | rfl | rfl
  · exact fun h => (ln_chars .sources _ _ h).2 rfl
  · exact fun h => (ln_chars .drift _ _ h).2 rfl
  · exact fun h => (ln_chars .sample _ _ h).2 rfl
  · exact fun h => (ln_chars .now _ _ h).2 rfl
theorem smI {n : Int} (h : small17 n) : smallI n := ⟨by have := h.1; omega, by have := h.2; omega⟩
theorem sT_len {p t1 t2 t3 t4 er u : Int} (h : ∀ n ∈ [p, t1, t2, t3, t4, er, u], small17 n) : (sT p t1 t2 t3 t4 er u).length ≤ 400 := by
  have l1 := lnW_len (word := wSources) (ns := [1, 0]) (by intro n hn; simp at hn; rcases hn with rfl | rfl <;> exact ⟨by decide, by decide⟩)
  have l2 := lnW_len (word := wDrift) (ns := [p]) (fun n hn => smI (h n (by simp at hn ⊢; simp [hn])))
  have l3 := lnW_len (word := wSample) (ns := [0, t1, t2, t3, t4, er]) (fun n hn => by
    simp only [List.mem_cons, List.mem_nil_iff, or_false] at hn
    rcases hn with rfl | rfl | rfl | rfl | rfl | rfl
    · exact ⟨by decide, by decide⟩
    all_goals exact smI (h _ (by simp)))
  have l4 := lnW_len (word := wNow) (ns := [u]) (fun n hn => smI (h n (by simp at hn ⊢; simp [hn])))
  simp only [wSources, wDrift, wSample, wNow, List.length_cons, List.length_nil] at l1 l2 l3 l4
  simp only [sT, List.length_append, wSources, wDrift, wSample, wNow, List.length_cons, List.length_nil]
  omega
theorem sT_good {p t1 t2 t3 t4 er u : Int} (h : ∀ n ∈ [p, t1, t2, t3, t4, er, u], small17 n) : ∀ l ∈ cutAt 10 (trimSuffix (sT p t1 t2 t3 t4 er u) [10]), GoodL noSave l := by
  have z0 : small17 0 := ⟨by decide, by decide⟩
  have z1 : small17 1 := ⟨by decide, by decide⟩
  rw [sT_cut]
  intro l hl
  simp only [sLs, List.mem_cons, List.mem_nil_iff, or_false] at hl
  rcases hl with rfl | rfl | rfl | rfl
  · exact goodL_cmd noSave .sources _ (by intro h; cases h) (fun n hn => by simp at hn; rcases hn with rfl | rfl; exact z1; exact z0)
  · exact goodL_cmd noSave .drift _ (by intro h; cases h) (fun n hn => by simp at hn; subst hn; exact h _ (by simp))
  · exact goodL_cmd noSave .sample _ (by intro h; cases h) (fun n hn => by
      simp only [List.mem_cons, List.mem_nil_iff, or_false] at hn
      rcases hn with rfl | rfl | rfl | rfl | rfl | rfl
      · exact z0
      all_goals exact h _ (by simp))
  · exact goodL_cmd noSave .now _ (by intro h; cases h) (fun n hn => by simp at hn; subst hn; exact h _ (by simp))
theorem sT_val {p t1 t2 t3 t4 er u : Int} (h : ∀ n ∈ [p, t1, t2, t3, t4, er, u], small17 n) (p0 : 0 ≤ p) (p1 : p ≤ 1000000) (d0 : 0 ≤ t4) (d1 : t4 ≤ 1000) (u0 : t4 ≤ u) (u1 : u ≤ 10000) :
    (atT t1 t2 t3 t4 er p = (0, 0, 20) → scriptV noSave (sT p t1 t2 t3 t4 er u) = ((lnW wSources [1, 0] ++ [10]) ++ (lnW wDrift [p] ++ [10]) ++ (lnW wError [20] ++ [10]) ++ (lnW wError [4] ++ [10]), 0, 0)) ∧
    ∀ lo hi, atT t1 t2 t3 t4 er p = (lo, hi, 0) → 900 ≤ lo → lo ≤ hi → hi ≤ 2000 → ∃ x y, nowT t4 lo hi p 0 0 u = (x, y, 0) ∧ 900 ≤ x ∧ x ≤ y ∧ y ≤ 30000 ∧ kE t4 lo hi p 0 0 = 0 ∧
      scriptV noSave (sT p t1 t2 t3 t4 er u) = ((lnW wSources [1, 0] ++ [10]) ++ (lnW wDrift [p] ++ [10]) ++ (lnW wLearnt [0, lo, hi] ++ [10]) ++ (lnW wSpan [x, y] ++ [10]), 0, 0) := by
  have hl := sT_len h
  have hc := sT_cut p t1 t2 t3 t4 er u
  have z0 : small17 0 := ⟨by decide, by decide⟩
  have z1 : small17 1 := ⟨by decide, by decide⟩
  let b1 : Bn := ⟨true, [(false, .zero)], 0, 0, .zero, sayL wSources [1, 0]⟩
  let b2 : Bn := ⟨true, [(false, .zero)], 0, p, .zero, b1.out ++ sayL wDrift [p]⟩
  have e1 : Bn.zero.run noSave .sources [1, 0] = (b1, 0) := by
    show Bn.zero.sources 1 0 = _
    unfold Bn.sources
    rw [if_pos (by decide)]; rfl
  have e2 : b1.run noSave .drift [p] = (b2, 0) := by
    show b1.drift p = _
    unfold Bn.drift
    rw [if_neg (by decide), if_pos ⟨p0, p1⟩]; rfl
  have key : ∀ (b3 b4 : Bn), b2.run noSave .sample [0, t1, t2, t3, t4, er] = (b3, 0) → b3.run noSave .now [u] = (b4, 0) → scriptV noSave (sT p t1 t2 t3 t4 er u) = (b4.out, 0, 0) := fun b3 b4 e3 e4 => by
    unfold scriptV
    rw [hc, if_neg (by omega), if_neg (by show ¬ 100 < 4; decide)]
    show Bn.lines noSave .zero 0 (lnW (Cmd.word .sources) [1, 0] :: lnW (Cmd.word .drift) [p] :: lnW (Cmd.word .sample) [0, t1, t2, t3, t4, er] :: lnW (Cmd.word .now) [u] :: []) = _
    rw [lines_cmd noSave _ _ .sources [1, 0] _ rfl (fun n hn => by simp at hn; rcases hn with rfl | rfl; exact z1; exact z0) (by rw [e1]), e1, lines_cmd noSave _ _ .drift _ _ rfl (fun n hn => by simp at hn; subst hn; exact h _ (by simp)) (by rw [e2]), e2,
      lines_cmd noSave _ _ .sample _ _ rfl (fun n hn => by
        simp only [List.mem_cons, List.mem_nil_iff, or_false] at hn
        rcases hn with rfl | rfl | rfl | rfl | rfl | rfl
        · exact z0
        all_goals exact h _ (by simp)) (by rw [e3]), e3, lines_cmd noSave _ _ .now _ _ rfl (fun n hn => by simp at hn; subst hn; exact h _ (by simp)) (by rw [e4]), e4]
    rfl
  have e3 : b2.run noSave .sample [0, t1, t2, t3, t4, er] = b2.heard 0 t4 (atT t1 t2 t3 t4 er p) := by
    show b2.sample 0 t1 t2 t3 t4 er = _
    unfold Bn.sample
    rw [if_pos ⟨by decide, by show (0 : Int) < ((1 : Nat) : Int); decide⟩]
  constructor
  · intro ha
    rw [ha] at e3
    refine (key ⟨true, [(false, .zero)], 0, p, .zero, b2.out ++ sayL wError [20]⟩ ⟨true, [(false, .zero)], 0, p, .zero, b2.out ++ sayL wError [20] ++ sayL wError [4]⟩ ?_ ?_).trans rfl
    · rw [e3]
      unfold Bn.heard
      rw [if_neg (by decide)]; rfl
    · show Bn.nowT _ (mgO [] u 0) = _
      rw [mgO_nil]
      unfold Bn.nowT
      rw [if_neg (by decide)]; rfl
  · intro lo hi ha h1 h2 h3
    obtain ⟨x, y, hn, hv, x0, xy, y1, hk⟩ := now_gen8 (P := p) (u := u) (ka := t4) (klo := lo) (khi := hi) p0 p1 (by omega) u0 (by omega) (by omega) h2 (by omega)
    refine ⟨x, y, hn, by omega, xy, by omega, hk, ?_⟩
    have hb : begK t4 lo hi p = ⟨t4, lo, hi, p, 0, 0⟩ := by unfold begK; rw [if_pos hk]
    have hm := mg_one (k := ⟨t4, lo, hi, p, 0, 0⟩) (u := u) hn hv
    rw [ha] at e3
    refine (key ⟨true, [(true, ⟨t4, lo, hi, p, 0, 0⟩)], 0, p, .zero, b2.out ++ sayL wLearnt [0, lo, hi]⟩ ⟨true, [(true, ⟨t4, lo, hi, p, 0, 0⟩)], 0, p, .zero, b2.out ++ sayL wLearnt [0, lo, hi] ++ sayL wSpan [x, y]⟩ ?_ ?_).trans rfl
    · rw [e3]
      unfold Bn.heard
      rw [if_pos rfl]
      show b2.took 0 lo hi (kE t4 lo hi p 0 0, true, begK t4 lo hi p) = _
      rw [hk, hb]
      unfold Bn.took
      rw [if_pos rfl]; rfl
    · show Bn.nowT _ (mgO [⟨t4, lo, hi, p, 0, 0⟩] u 0) = _
      rw [hm]
      unfold Bn.nowT
      rw [if_pos rfl]; rfl
end Go.Proofs.YtiinmhfolfgobaaGreatDoor
