/- The walk of the law TicksText. -/
import Derived.Test.YtelmcglckkjmfaaDoorParseP
import Derived.Test.YtelmcglckkjmfaaDoorWorld
namespace Go.Proofs.YtelmcglckkjmfaaDoor
open Go.RowKit
set_option linter.unusedSimpArgs false
set_option linter.unusedVariables false

set_option maxRecDepth 100000 in
set_option maxHeartbeats 4000000 in
theorem ticksText_core (a : Int) (s : ByteArray) (w : World) (hw : Pow10 w) (hm : MaxLenAt w) :
    Calls Tryd.prog 8 #[.int .i64 a, .string s] w (RB w (.bool true)) := by
  have HW := Lib.hid hw; have HM := Lib.hid hm; clear hw hm
  by_cases hs : 60 < s.size
  · skip
    go_enter Tryd.func8, Tryd.ntmps8
    go_wp2_with fail
    refine (known10_any _ HW.out).mono ?_
    rintro e wk ⟨rfl, hbk⟩
    go_wp2
    go_ret
    exact ⟨rfl, hbk⟩
  · have hs' : decide ((s.size : Int) > 60) = false := by simp; omega
    have hsl : s.size ≤ 60 := by omega
    clear hs
    have r1 := fun w => wwithinW a 2305843009213693953 w (by omega) (by omega)
    have n0 : 0 ≤ a % 2305843009213693953 := by omega
    have n1 : a % 2305843009213693953 < 2305843009213693953 := by omega
    generalize a % 2305843009213693953 = n at *
    obtain ⟨t, ht⟩ : ∃ t, t = n - 1152921504606846976 := ⟨_, rfl⟩
    have v1 : IntKind.i64.wrap (n - 1152921504606846976) = t := by rw [IntWalk.i64_in _ (by omega)]; exact ht.symm
    have v2 : wrap64 (n - 1152921504606846976) = t := by unfold wrap64; omega
    obtain rfl : n = t + 1152921504606846976 := by omega
    have e1 : t + 1152921504606846976 - 1152921504606846976 = t := by omega
    clear v1 v2 ht
    have hv : vT t = true := vT_true.2 (by omega)
    have q1 := fun w => formatF t (by omega) (by omega) w
    have hl := fmt_len t (by omega) (by omega)
    have hz : (⟨(fmtS t).toArray⟩ : ByteArray).size ≤ 1000 := by
      show (fmtS t).toArray.size ≤ 1000
      simp only [List.size_toArray, fmtS, List.length_append, Lib.repeatL_length]; simp; omega
    have q2 := fun w => parse_any ⟨(fmtS t).toArray⟩ hz w
    rw [show (⟨(fmtS t).toArray⟩ : ByteArray).data.toList = fmtS t from rfl, parse_format t hv] at q2
    have q3 := fun w => parse_any s (by omega) w
    unfold parV at q2 q3
    dsimp only at q2
    have R1 := Lib.hid r1; have Q1 := Lib.hid q1; have Q2 := Lib.hid q2; clear r1 q1 q2 hl hz hv
    rcases hp : parT s.data.toList with _ | y
    · rw [hp] at q3
      dsimp only at q3
      have Q3 := Lib.hid q3; clear q3 hp
      go_enter Tryd.func8, Tryd.ntmps8
      go_wp2_with fail
      refine (R1.out _).mono ?_
      rintro e wq1 ⟨rfl, rfl⟩
      go_wp2_with fail
      refine (Q1.out _ HW.out).mono ?_
      rintro e w1 ⟨rfl, K1⟩
      go_wp2_with fail
      refine (Q2.out _ (HW.out.below K1) (HM.out.below K1)).mono ?_
      rintro e w2 ⟨rfl, hb2⟩
      have K2 : Below w.heap.size w w2 := kept_call hb2 K1
      go_wp2_with fail
      refine (Q3.out _ (HW.out.below K2) (HM.out.below K2)).mono ?_
      rintro e w3 ⟨rfl, hb3⟩
      have K3 : Below w.heap.size w w3 := kept_call hb3 K2
      clear hb2 hb3
      go_wp2_with fail
      refine (known10_any _ (HW.out.below K3)).mono ?_
      rintro e w4 ⟨rfl, hb4⟩
      have K4 : Below w.heap.size w w4 := kept_call hb4 K3
      go_wp2
      go_ret
      exact ⟨by simp, K4⟩
    · obtain ⟨hy, hf⟩ := parT_some hp
      have hyb := vT_true.1 hy
      rw [hp] at q3
      dsimp only at q3
      have q4 := fun w => formatF y (by omega) (by omega) w
      have hfb : (fmtS y == s.toList) = true := by rw [ByteArray.toList_eq, hf]; simp
      have Q3 := Lib.hid q3; have Q4 := Lib.hid q4; clear q3 q4 hp hf hy
      go_enter Tryd.func8, Tryd.ntmps8
      go_wp2_with fail
      refine (R1.out _).mono ?_
      rintro e wq1 ⟨rfl, rfl⟩
      go_wp2_with fail
      refine (Q1.out _ HW.out).mono ?_
      rintro e w1 ⟨rfl, K1⟩
      go_wp2_with fail
      refine (Q2.out _ (HW.out.below K1) (HM.out.below K1)).mono ?_
      rintro e w2 ⟨rfl, hb2⟩
      have K2 : Below w.heap.size w w2 := kept_call hb2 K1
      go_wp2_with fail
      refine (Q3.out _ (HW.out.below K2) (HM.out.below K2)).mono ?_
      rintro e w3 ⟨rfl, hb3⟩
      have K3 : Below w.heap.size w w3 := kept_call hb3 K2
      clear hb2 hb3
      go_wp2_with fail
      refine (known10_any _ (HW.out.below K3)).mono ?_
      rintro e w4 ⟨rfl, hb4⟩
      have K4 : Below w.heap.size w w4 := kept_call hb4 K3
      go_wp2_with fail
      refine (Q4.out _ (HW.out.below K4)).mono ?_
      rintro e w5 ⟨rfl, hb5⟩
      have K5 : Below w.heap.size w w5 := kept_call hb5 K4
      go_wp2
      go_ret
      exact ⟨by simp [hfb], K5⟩
theorem ticksText_walk (a : Int) (_ : IntIn a) (s : ByteArray) (w : World) (hw : Pow10 w) (hm : MaxLenAt w) :
    Walked 8 #[.int .i64 a, .string s] w := ticksText_core a s w hw hm
end Go.Proofs.YtelmcglckkjmfaaDoor
