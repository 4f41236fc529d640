/- ticks.Parse: what it reads, for every text of at most 1000 bytes. -/
import Derived.Test.YtelmcglckkjmfaaDoorNumber
import Derived.Test.YtelmcglckkjmfaaDoorFrameS
namespace Go.Proofs.YtelmcglckkjmfaaDoor
open Go.RowKit
set_option linter.unusedSimpArgs false
set_option linter.unusedVariables false
theorem numL_bd : ∀ (l : List UInt8) (n : Int), 0 ≤ n → n ≤ 720575940379279369 → 0 ≤ numL l n ∧ numL l n ≤ 720575940379279369
  | [], n, h0, h1 => ⟨h0, h1⟩
  | c :: l, n, h0, h1 => by
    unfold numL
    split
    · exact ⟨h0, h1⟩
    · exact numL_bd l _ (by omega) (by omega)
/-- What Parse makes of two numbers and a sign. -/
def parK (k r : Int) (s : List UInt8) : Option Int := if -1099511627776 ≤ k ∧ k ≤ 1099511627776 ∧ r < 1048576 ∧ vT (k * 1048576 + r) = true ∧ fmtS (k * 1048576 + r) = s then some (k * 1048576 + r) else none
def parT (s : List UInt8) : Option Int :=
  parK (if Lib.hasPrefix (Lib.cut s [46]).1 [45] then -numL (Lib.trimPrefix (Lib.cut s [46]).1 [45]) 0 else numL (Lib.trimPrefix (Lib.cut s [46]).1 [45]) 0) (numL (Lib.cut s [46]).2.1 0) s
def parV : Option Int → Value
  | none => .tuple #[.int .i64 0, .bool false]
  | some t => .tuple #[.int .i64 t, .bool true]
theorem parK_no {k r : Int} {s : List UInt8} (h : ¬ (-1099511627776 ≤ k ∧ k ≤ 1099511627776 ∧ r < 1048576 ∧ vT (k * 1048576 + r) = true ∧ fmtS (k * 1048576 + r) = s)) : parK k r s = none := if_neg h
theorem parK_yes {k r : Int} {s : List UInt8} (h1 : -1099511627776 ≤ k) (h2 : k ≤ 1099511627776) (h3 : r < 1048576) (h4 : vT (k * 1048576 + r) = true) (h5 : fmtS (k * 1048576 + r) = s) : parK k r s = some (k * 1048576 + r) := if_pos ⟨h1, h2, h3, h4, h5⟩

set_option maxRecDepth 100000 in
set_option maxHeartbeats 4000000 in
theorem parse_any (s : ByteArray) (hs : s.size ≤ 1000) (w : World) (hw : Pow10 w) (hm : MaxLenAt w) :
    Calls Tryd.prog 23 #[.string s] w (RB w (parV (parT s.data.toList))) := by
  have HW := Lib.hid hw; clear hw
  obtain ⟨mx, hmx⟩ := hm
  have r1 : Calls Tryd.prog 39 #[.string s, .string ⟨#[46]⟩] w fun e w' => e = .returned (.tuple #[.string ⟨(Lib.cut s.data.toList [46]).1.toArray⟩, .string ⟨(Lib.cut s.data.toList [46]).2.1.toArray⟩, .bool (Lib.cut s.data.toList [46]).2.2]) ∧ ∃ n, w' = w.drewN n := Tryd.strings_Cut s ⟨#[46]⟩ mx w (by omega) hmx
  unfold parT
  generalize (Lib.cut s.data.toList [46]).1 = wh at *
  generalize (Lib.cut s.data.toList [46]).2.1 = pa at *
  generalize (Lib.cut s.data.toList [46]).2.2 = fo at *
  have r2 : ∀ w, Calls Tryd.prog 40 #[.string ⟨wh.toArray⟩, .string ⟨#[45]⟩] w fun e w' => e = .returned (.tuple #[.string ⟨(Lib.trimPrefix wh [45]).toArray⟩, .bool (Lib.hasPrefix wh [45])]) ∧ w' = w := fun w => Tryd.strings_CutPrefix ⟨wh.toArray⟩ ⟨#[45]⟩ w
  generalize Lib.trimPrefix wh [45] = di at *
  generalize Lib.hasPrefix wh [45] = ng at *
  have r3 : ∀ w, Calls Tryd.prog 41 #[.string ⟨di.toArray⟩] w (RB w (.int .i64 (numL di 0))) := fun w => number_any ⟨di.toArray⟩ w
  have r4 : ∀ w, Calls Tryd.prog 41 #[.string ⟨pa.toArray⟩] w (RB w (.int .i64 (numL pa 0))) := fun w => number_any ⟨pa.toArray⟩ w
  have d0 := numL_bd di 0 (by omega) (by omega)
  have p0 := numL_bd pa 0 (by omega) (by omega)
  generalize numL di 0 = d at *
  generalize numL pa 0 = r at *
  obtain ⟨d0, d1⟩ := d0
  obtain ⟨p0, p1⟩ := p0
  have r5 := second_any (-1152921504606846976) (by omega) (by omega)
  have r6 := second_any 1152921504606846976 (by omega) (by omega)
  rw [show (-1152921504606846976 : Int) / 1048576 = -1099511627776 by decide] at r5
  rw [show (1152921504606846976 : Int) / 1048576 = 1099511627776 by decide] at r6
  have hz : s.data.toList.length ≤ 1000 := by simpa using hs
  have R1 := Lib.hid r1; have R2 := Lib.hid r2; have R3 := Lib.hid r3; have R4 := Lib.hid r4; have R5 := Lib.hid r5; have R6 := Lib.hid r6; clear r1 r2 r3 r4 r5 r6 hmx hz
  cases ng
  · show Calls _ _ _ w (RB w (parV (parK d r s.data.toList)))
    by_cases h1 : d > 1099511627776
    · rw [parK_no (by omega)]
      have h1' : decide (d > 1099511627776) = true := by simp; omega
      go_enter Tryd.func23, Tryd.ntmps23
      go_wp2_with fail
      refine R1.out.mono ?_
      rintro e w0 ⟨rfl, nq, rfl⟩
      go_wp2_with fail
      refine (R2.out _).mono ?_
      rintro e w0 ⟨rfl, rfl⟩
      go_wp2_with fail
      refine (R3.out _).mono ?_
      rintro e w1 ⟨rfl, hb1⟩
      have K1 : Below w.heap.size w w1 := kept_call hb1 (below_drewN (Below.refl _ _) _)
      go_wp2_with fail
      refine (R4.out _).mono ?_
      rintro e w2 ⟨rfl, hb2⟩
      have K2 : Below w.heap.size w w2 := kept_call hb2 K1
      clear hb1 hb2
      go_wp2_with fail
      refine (R5.out _).mono ?_
      rintro e w9 ⟨rfl, rfl⟩
      go_wp2_with fail
      refine (R6.out _).mono ?_
      rintro e w9 ⟨rfl, rfl⟩
      go_wp2
      go_ret2
      exact ⟨rfl, K2⟩
    · skip
      by_cases h2 : 1048576 ≤ r
      · rw [parK_no (by omega)]
        go_enter Tryd.func23, Tryd.ntmps23
        go_wp2_with fail
        refine R1.out.mono ?_
        rintro e w0 ⟨rfl, nq, rfl⟩
        go_wp2_with fail
        refine (R2.out _).mono ?_
        rintro e w0 ⟨rfl, rfl⟩
        go_wp2_with fail
        refine (R3.out _).mono ?_
        rintro e w1 ⟨rfl, hb1⟩
        have K1 : Below w.heap.size w w1 := kept_call hb1 (below_drewN (Below.refl _ _) _)
        go_wp2_with fail
        refine (R4.out _).mono ?_
        rintro e w2 ⟨rfl, hb2⟩
        have K2 : Below w.heap.size w w2 := kept_call hb2 K1
        clear hb1 hb2
        go_wp2_with fail
        refine (R5.out _).mono ?_
        rintro e w9 ⟨rfl, rfl⟩
        go_wp2_with fail
        refine (R6.out _).mono ?_
        rintro e w9 ⟨rfl, rfl⟩
        go_wp2
        go_ret2
        exact ⟨rfl, K2⟩
      · have q1 := tvalid_any (d * 1048576 + r)
        rcases hv : vT (d * 1048576 + r)
        · rw [parK_no (by rw [hv]; simp)]
          rw [hv] at q1
          have Q1 := Lib.hid q1; clear q1 hv
          go_enter Tryd.func23, Tryd.ntmps23
          go_wp2_with fail
          refine R1.out.mono ?_
          rintro e w0 ⟨rfl, nq, rfl⟩
          go_wp2_with fail
          refine (R2.out _).mono ?_
          rintro e w0 ⟨rfl, rfl⟩
          go_wp2_with fail
          refine (R3.out _).mono ?_
          rintro e w1 ⟨rfl, hb1⟩
          have K1 : Below w.heap.size w w1 := kept_call hb1 (below_drewN (Below.refl _ _) _)
          go_wp2_with fail
          refine (R4.out _).mono ?_
          rintro e w2 ⟨rfl, hb2⟩
          have K2 : Below w.heap.size w w2 := kept_call hb2 K1
          clear hb1 hb2
          go_wp2_with fail
          refine (R5.out _).mono ?_
          rintro e w9 ⟨rfl, rfl⟩
          go_wp2_with fail
          refine (R6.out _).mono ?_
          rintro e w9 ⟨rfl, rfl⟩
          go_wp2_with fail
          refine (Q1.out _).mono ?_
          rintro e w9 ⟨rfl, rfl⟩
          go_wp2
          go_ret2
          exact ⟨rfl, K2⟩
        · have q2 := fun w => formatF (d * 1048576 + r) (by omega) (by omega) w
          rw [hv] at q1
          have Q1 := Lib.hid q1; clear q1
          by_cases hf : fmtS (d * 1048576 + r) = s.data.toList
          · rw [parK_yes (by omega) (by omega) (by omega) hv hf]
            have hfb : (fmtS (d * 1048576 + r) == s.toList) = true := by rw [ByteArray.toList_eq, hf]; simp
            have Q2 := Lib.hid q2; clear q2 hf hv
            go_enter Tryd.func23, Tryd.ntmps23
            go_wp2_with fail
            refine R1.out.mono ?_
            rintro e w0 ⟨rfl, nq, rfl⟩
            go_wp2_with fail
            refine (R2.out _).mono ?_
            rintro e w0 ⟨rfl, rfl⟩
            go_wp2_with fail
            refine (R3.out _).mono ?_
            rintro e w1 ⟨rfl, hb1⟩
            have K1 : Below w.heap.size w w1 := kept_call hb1 (below_drewN (Below.refl _ _) _)
            go_wp2_with fail
            refine (R4.out _).mono ?_
            rintro e w2 ⟨rfl, hb2⟩
            have K2 : Below w.heap.size w w2 := kept_call hb2 K1
            clear hb1 hb2
            go_wp2_with fail
            refine (R5.out _).mono ?_
            rintro e w9 ⟨rfl, rfl⟩
            go_wp2_with fail
            refine (R6.out _).mono ?_
            rintro e w9 ⟨rfl, rfl⟩
            go_wp2_with fail
            refine (Q1.out _).mono ?_
            rintro e w9 ⟨rfl, rfl⟩
            go_wp2_with fail
            refine (Q2.out _ (HW.out.below K2)).mono ?_
            rintro e w3 ⟨rfl, hb3⟩
            have K3 := kept_call hb3 K2
            go_wp2
            go_ret2
            exact ⟨rfl, K3⟩
          · rw [parK_no (fun h => hf h.2.2.2.2)]
            have hfb : (fmtS (d * 1048576 + r) == s.toList) = false := by rw [ByteArray.toList_eq]; simpa using hf
            have Q2 := Lib.hid q2; clear q2 hf hv
            go_enter Tryd.func23, Tryd.ntmps23
            go_wp2_with fail
            refine R1.out.mono ?_
            rintro e w0 ⟨rfl, nq, rfl⟩
            go_wp2_with fail
            refine (R2.out _).mono ?_
            rintro e w0 ⟨rfl, rfl⟩
            go_wp2_with fail
            refine (R3.out _).mono ?_
            rintro e w1 ⟨rfl, hb1⟩
            have K1 : Below w.heap.size w w1 := kept_call hb1 (below_drewN (Below.refl _ _) _)
            go_wp2_with fail
            refine (R4.out _).mono ?_
            rintro e w2 ⟨rfl, hb2⟩
            have K2 : Below w.heap.size w w2 := kept_call hb2 K1
            clear hb1 hb2
            go_wp2_with fail
            refine (R5.out _).mono ?_
            rintro e w9 ⟨rfl, rfl⟩
            go_wp2_with fail
            refine (R6.out _).mono ?_
            rintro e w9 ⟨rfl, rfl⟩
            go_wp2_with fail
            refine (Q1.out _).mono ?_
            rintro e w9 ⟨rfl, rfl⟩
            go_wp2_with fail
            refine (Q2.out _ (HW.out.below K2)).mono ?_
            rintro e w3 ⟨rfl, hb3⟩
            have K3 := kept_call hb3 K2
            go_wp2
            go_ret2
            exact ⟨rfl, K3⟩
  · show Calls _ _ _ w (RB w (parV (parK (-d) r s.data.toList)))
    by_cases h1 : (-d) < -1099511627776
    · rw [parK_no (by omega)]
      have h1' : decide (-d < -1099511627776) = true := by simp; omega
      go_enter Tryd.func23, Tryd.ntmps23
      go_wp2_with fail
      refine R1.out.mono ?_
      rintro e w0 ⟨rfl, nq, rfl⟩
      go_wp2_with fail
      refine (R2.out _).mono ?_
      rintro e w0 ⟨rfl, rfl⟩
      go_wp2_with fail
      refine (R3.out _).mono ?_
      rintro e w1 ⟨rfl, hb1⟩
      have K1 : Below w.heap.size w w1 := kept_call hb1 (below_drewN (Below.refl _ _) _)
      go_wp2_with fail
      refine (R4.out _).mono ?_
      rintro e w2 ⟨rfl, hb2⟩
      have K2 : Below w.heap.size w w2 := kept_call hb2 K1
      clear hb1 hb2
      go_wp2_with fail
      refine (R5.out _).mono ?_
      rintro e w9 ⟨rfl, rfl⟩
      go_wp2
      go_ret2
      exact ⟨rfl, K2⟩
    · skip
      by_cases h2 : 1048576 ≤ r
      · rw [parK_no (by omega)]
        go_enter Tryd.func23, Tryd.ntmps23
        go_wp2_with fail
        refine R1.out.mono ?_
        rintro e w0 ⟨rfl, nq, rfl⟩
        go_wp2_with fail
        refine (R2.out _).mono ?_
        rintro e w0 ⟨rfl, rfl⟩
        go_wp2_with fail
        refine (R3.out _).mono ?_
        rintro e w1 ⟨rfl, hb1⟩
        have K1 : Below w.heap.size w w1 := kept_call hb1 (below_drewN (Below.refl _ _) _)
        go_wp2_with fail
        refine (R4.out _).mono ?_
        rintro e w2 ⟨rfl, hb2⟩
        have K2 : Below w.heap.size w w2 := kept_call hb2 K1
        clear hb1 hb2
        go_wp2_with fail
        refine (R5.out _).mono ?_
        rintro e w9 ⟨rfl, rfl⟩
        go_wp2_with fail
        refine (R6.out _).mono ?_
        rintro e w9 ⟨rfl, rfl⟩
        go_wp2
        go_ret2
        exact ⟨rfl, K2⟩
      · have q1 := tvalid_any ((-d) * 1048576 + r)
        rcases hv : vT ((-d) * 1048576 + r)
        · rw [parK_no (by rw [hv]; simp)]
          rw [hv] at q1
          have Q1 := Lib.hid q1; clear q1 hv
          go_enter Tryd.func23, Tryd.ntmps23
          go_wp2_with fail
          refine R1.out.mono ?_
          rintro e w0 ⟨rfl, nq, rfl⟩
          go_wp2_with fail
          refine (R2.out _).mono ?_
          rintro e w0 ⟨rfl, rfl⟩
          go_wp2_with fail
          refine (R3.out _).mono ?_
          rintro e w1 ⟨rfl, hb1⟩
          have K1 : Below w.heap.size w w1 := kept_call hb1 (below_drewN (Below.refl _ _) _)
          go_wp2_with fail
          refine (R4.out _).mono ?_
          rintro e w2 ⟨rfl, hb2⟩
          have K2 : Below w.heap.size w w2 := kept_call hb2 K1
          clear hb1 hb2
          go_wp2_with fail
          refine (R5.out _).mono ?_
          rintro e w9 ⟨rfl, rfl⟩
          go_wp2_with fail
          refine (R6.out _).mono ?_
          rintro e w9 ⟨rfl, rfl⟩
          go_wp2_with fail
          refine (Q1.out _).mono ?_
          rintro e w9 ⟨rfl, rfl⟩
          go_wp2
          go_ret2
          exact ⟨rfl, K2⟩
        · have q2 := fun w => formatF ((-d) * 1048576 + r) (by omega) (by omega) w
          rw [hv] at q1
          have Q1 := Lib.hid q1; clear q1
          by_cases hf : fmtS ((-d) * 1048576 + r) = s.data.toList
          · rw [parK_yes (by omega) (by omega) (by omega) hv hf]
            have hfb : (fmtS ((-d) * 1048576 + r) == s.toList) = true := by rw [ByteArray.toList_eq, hf]; simp
            have Q2 := Lib.hid q2; clear q2 hf hv
            go_enter Tryd.func23, Tryd.ntmps23
            go_wp2_with fail
            refine R1.out.mono ?_
            rintro e w0 ⟨rfl, nq, rfl⟩
            go_wp2_with fail
            refine (R2.out _).mono ?_
            rintro e w0 ⟨rfl, rfl⟩
            go_wp2_with fail
            refine (R3.out _).mono ?_
            rintro e w1 ⟨rfl, hb1⟩
            have K1 : Below w.heap.size w w1 := kept_call hb1 (below_drewN (Below.refl _ _) _)
            go_wp2_with fail
            refine (R4.out _).mono ?_
            rintro e w2 ⟨rfl, hb2⟩
            have K2 : Below w.heap.size w w2 := kept_call hb2 K1
            clear hb1 hb2
            go_wp2_with fail
            refine (R5.out _).mono ?_
            rintro e w9 ⟨rfl, rfl⟩
            go_wp2_with fail
            refine (R6.out _).mono ?_
            rintro e w9 ⟨rfl, rfl⟩
            go_wp2_with fail
            refine (Q1.out _).mono ?_
            rintro e w9 ⟨rfl, rfl⟩
            go_wp2_with fail
            refine (Q2.out _ (HW.out.below K2)).mono ?_
            rintro e w3 ⟨rfl, hb3⟩
            have K3 := kept_call hb3 K2
            go_wp2
            go_ret2
            exact ⟨rfl, K3⟩
          · rw [parK_no (fun h => hf h.2.2.2.2)]
            have hfb : (fmtS ((-d) * 1048576 + r) == s.toList) = false := by rw [ByteArray.toList_eq]; simpa using hf
            have Q2 := Lib.hid q2; clear q2 hf hv
            go_enter Tryd.func23, Tryd.ntmps23
            go_wp2_with fail
            refine R1.out.mono ?_
            rintro e w0 ⟨rfl, nq, rfl⟩
            go_wp2_with fail
            refine (R2.out _).mono ?_
            rintro e w0 ⟨rfl, rfl⟩
            go_wp2_with fail
            refine (R3.out _).mono ?_
            rintro e w1 ⟨rfl, hb1⟩
            have K1 : Below w.heap.size w w1 := kept_call hb1 (below_drewN (Below.refl _ _) _)
            go_wp2_with fail
            refine (R4.out _).mono ?_
            rintro e w2 ⟨rfl, hb2⟩
            have K2 : Below w.heap.size w w2 := kept_call hb2 K1
            clear hb1 hb2
            go_wp2_with fail
            refine (R5.out _).mono ?_
            rintro e w9 ⟨rfl, rfl⟩
            go_wp2_with fail
            refine (R6.out _).mono ?_
            rintro e w9 ⟨rfl, rfl⟩
            go_wp2_with fail
            refine (Q1.out _).mono ?_
            rintro e w9 ⟨rfl, rfl⟩
            go_wp2_with fail
            refine (Q2.out _ (HW.out.below K2)).mono ?_
            rintro e w3 ⟨rfl, hb3⟩
            have K3 := kept_call hb3 K2
            go_wp2
            go_ret2
            exact ⟨rfl, K3⟩
end Go.Proofs.YtelmcglckkjmfaaDoor
