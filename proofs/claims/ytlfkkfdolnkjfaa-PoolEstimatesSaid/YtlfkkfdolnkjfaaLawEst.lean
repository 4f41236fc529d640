/- The walk of PoolEstimates. -/
import Derived.Test.YtlfkkfdolnkjfaaDrawY
import Derived.Test.YtlfkkfdolnkjfaaEst
import Derived.Test.YtlfkkfdolnkjfaaJ35
import Derived.Test.YtlfkkfdolnkjfaaLaw34S
import Derived.Test.YtlfkkfdolnkjfaaSpans
namespace Go.Proofs.Ytlfkkfdolnkjfaa
open Go.RowKit Go.Shelf Go.Sort
set_option linter.unusedSimpArgs false
set_option linter.unusedVariables false

def EsRel (W : World) (i : Value) (G : Nat) (wr : World) : Prop := ∃ q : Nat, q ≤ 2 ∧ G = 2 - q ∧ i = .int .i64 q ∧ Below W.heap.size W wr
set_option maxRecDepth 100000 in
set_option maxHeartbeats 4000000 in
theorem ests_walk (RA LA : Option Addr) (rlen rcap llen lcap : Nat) (rs : List (Int × Int)) (ls : List Int) (v k f : Int) (w : World) (h : SpansAt w RA rlen rs) (k9 : IntsAt w LA llen ls) :
    Calls Try.prog 12 #[.slice RA rlen rcap, .slice LA llen lcap, .int .i64 v, .int .i64 k, .int .i64 f] w (RB w (.bool true)) := by
  obtain rfl := h.1
  have hlm := h.2.1
  by_cases h10 : 10 < rs.length
  · have g0 : decide (10 < (rs.length : Int)) = true := decide_eq_true (by omega)
    have g0n : decide (10 < rs.length) = true := decide_eq_true h10
    have HK := Lib.hid (show Kp w w from Below.refl _ _)
    go_enter Try.func12, Try.ntmps12
    go_wp2_with fail
    refine (known36_any _).mono ?_
    rintro e w1 ⟨rfl, hb1⟩
    have S1 : Below w.heap.size w w1 := kept_call hb1 (by (repeat' (first | (with_reducible exact Below.refl _ _) | (with_reducible refine Below.setCell ?_ ?_ _) | (with_reducible refine Below.alloc ?_ ?_ _) | (with_reducible refine Below.drew ?_) | (with_reducible refine below_drewN ?_ _))) <;> (first | omega | (simp <;> omega)))
    have Z1 := S1.size
    replace HK := Lib.hid (HK.out.below S1)
    clear hb1 S1
    go_wp2
    go_ret
    exact ⟨rfl, HK.out.below (by (repeat' (first | (with_reducible exact Below.refl _ _) | (with_reducible refine Below.setCell ?_ ?_ _) | (with_reducible refine Below.alloc ?_ ?_ _) | (with_reducible refine Below.drew ?_) | (with_reducible refine below_drewN ?_ _))) <;> (first | omega | (simp <;> omega)))⟩
  have g0 : decide (10 < (rs.length : Int)) = false := decide_eq_false (by omega)
  have g0n : decide (10 < rs.length) = false := decide_eq_false h10
  have HK := Lib.hid (show Kp w w from Below.refl _ _)
  have HLI0 := Lib.hid k9; have HR0 := Lib.hid h; clear h k9
  go_enter Try.func12, Try.ntmps12
  go_wp2_with fail
  refine (random_any v _).mono ?_
  rintro e w1 ⟨g1, c1, rfl, hc1, hg1, hl1, hat1, hb1⟩
  have S1 : Below w.heap.size w w1 := kept_call hb1 (by (repeat' (first | (with_reducible exact Below.refl _ _) | (with_reducible refine Below.setCell ?_ ?_ _) | (with_reducible refine Below.alloc ?_ ?_ _) | (with_reducible refine Below.drew ?_) | (with_reducible refine below_drewN ?_ _))) <;> (first | omega | (simp <;> omega)))
  have Z1 := S1.size
  have HSD := Lib.hid (rand_bys hat1)
  replace HK := Lib.hid (HK.out.below S1)
  clear hb1 S1
  clear hat1
  have HLI := Lib.hid (IntsAt.below HLI0.out HK.out.b)
  go_wp2_with fail
  refine (new_any LA llen lcap ls _ HLI.out).mono ?_
  rintro e wt ⟨rfl, ht1, hb1⟩
  have Zt := hb1.size
  have T1 := ht1.lt
  replace HK := Lib.hid (HK.out.below hb1)
  replace HSD := Lib.hid (HSD.out.below hb1)
  clear hb1 HLI HLI0
  have HT := Lib.hid ht1; clear ht1
  go_wp2_with fail
  refine (tspans_any _ 12 20 _ HT.out (by omega) (by omega) (by omega) (by omega)).mono ?_
  rintro e w2 ⟨A2, c2, ss, rfl, sl, sN, srow, ssm, -, hg2⟩
  have Z2 : wt.heap.size ≤ w2.heap.size := hg2.size
  have HSD2 := Lib.hid (show BysAt w2 (some ⟨g1, 0, none⟩) 32 (randS v) from ⟨HSD.out.1, HSD.out.2.1, fun _ => ⟨g1, 0, rfl, by obtain ⟨ga, oa, ea, hs⟩ := HSD.out.2.2 (by decide); cases ea; exact ⟨Nat.lt_of_lt_of_le hs.1 Z2, fun j hj => hg2.cell (hs.2 j hj) (by simp; omega)⟩⟩⟩)
  have HK2 := Lib.hid (show Kp w w2 from below_grown HK.out.b hg2 (by omega) (by omega))
  clear HK HSD; have HK := HK2; have HSD := HSD2; clear HK2 HSD2 HT hg2
  have ZW2 := HK.out.b.size
  have hss := spans_of_row srow (by omega)
  have HS := Lib.hid hss; have HSM := Lib.hid ssm; have HSN := Lib.hid sN; clear hss srow ssm sN
  have HR := Lib.hid (HR0.out.below HK.out.b)
  clear HR0
  go_wp2
  have HBL := Lib.hid (show Blk (w2.alloc (.cells #[.slice RA rs.length rcap, .slice A2 ss.length c2] 43)) w2.heap.size 43 #[.slice RA rs.length rcap, .slice A2 ss.length c2] from Blk.new _ _ _)
  obtain ⟨W3, eW3⟩ : ∃ W3, W3 = w2.alloc (.cells #[.slice RA rs.length rcap, .slice A2 ss.length c2] 43) := ⟨_, rfl⟩
  have SW3 : Below w2.heap.size w2 W3 := by rw [eW3]; exact (Below.refl _ _).alloc (Nat.le_refl _) _
  have ZW3 := SW3.size
  replace HK := Lib.hid (HK.out.below SW3)
  replace HS := Lib.hid (HS.out.below SW3)
  replace HSD := Lib.hid (HSD.out.below SW3)
  replace HR := Lib.hid (HR.out.below SW3)
  clear SW3
  rw [← eW3] at HBL
  have l3 : w2.heap.size < W3.heap.size := by rw [eW3]; simp
  have hXS := Lib.hid (show ∀ q : Nat, q < 2 → ∃ (A : Option Addr) (c : Nat) (zs : List (Int × Int)), (#[Value.slice RA rs.length rcap, .slice A2 ss.length c2] : Array Value)[q]? = some (.slice A zs.length c) ∧ SpansAt W3 A zs.length zs ∧ zs.length ≤ 12 from fun q hq => by
    have : q = 0 ∨ q = 1 := by omega
    rcases this with rfl | rfl
    · exact ⟨RA, rcap, rs, rfl, HR.out, by omega⟩
    · exact ⟨A2, c2, ss, rfl, HS.out, by omega⟩)
  clear HR HS HSM HSN
  try rw [← eW3]
  go_loopg [32] 2 (fun G i wr => EsRel W3 i G wr)
  case atStart => exact ⟨0, by omega, by omega, rfl, by first | exact Below.refl _ _ | (rw [eW3]; exact Below.refl _ _)⟩
  case round =>
    obtain ⟨q, hq, rfl, rfl, KR⟩ := hrel
    have ZR := KR.size
    replace HK := Lib.hid (HK.out.below KR)
    replace HBL := Lib.hid (HBL.out.below KR)
    replace HSD := Lib.hid (HSD.out.below KR)
    have HKO := Lib.hid (show Kp W3 wr from KR)
    by_cases hlt : q < 2
    · have gq : decide ((q : Int) < 2) = true := decide_eq_true (by omega)
      have gqn : decide (q < 2) = true := decide_eq_true (by omega)
      obtain ⟨XA, xc, xs, hcq, hxs, hx12⟩ := hXS.out q hlt
      have HXS := Lib.hid (hxs.below KR)
      have cq : wr.cell? ⟨w2.heap.size, q, none⟩ = some (.slice XA xs.length xc) := (HBL.out.cell q).trans hcq
      clear hcq hxs KR HBL
      have wq : IntKind.i64.wrap ((q : Int) + 1) = ((q + 1 : Nat) : Int) := by rw [IntWalk.i64_in _ (by omega)]; omega
      have RE1 := Lib.hid (fun W h b => iest_any XA xs.length xc xs (some ⟨g1, 0, none⟩) 32 c1 (randS v) (k % 13) (f % 4) (by omega) (by omega) W h b)
      have RE2 := Lib.hid (fun W h b => rest_any XA xs.length xc xs (some ⟨g1, 0, none⟩) 32 c1 (randS v) (k % 13) (f % 4) (by omega) (by omega) W h b)
      go_wp2_with fail
      refine (within_any k 13 _ (by omega) (by omega)).mono ?_
      rintro e w2 ⟨rfl, rfl⟩
      clear cq
      go_wp2_with fail
      refine (within_any f 4 _ (by omega) (by omega)).mono ?_
      rintro e w2 ⟨rfl, rfl⟩
      go_wp2_with fail
      refine (RE1.out _ (HXS.out.below (by (repeat' (first | (with_reducible exact Below.refl _ _) | (with_reducible refine Below.setCell ?_ ?_ _) | (with_reducible refine Below.alloc ?_ ?_ _) | (with_reducible refine Below.drew ?_) | (with_reducible refine below_drewN ?_ _))) <;> (first | omega | (simp <;> omega)))) (HSD.out.below (by (repeat' (first | (with_reducible exact Below.refl _ _) | (with_reducible refine Below.setCell ?_ ?_ _) | (with_reducible refine Below.alloc ?_ ?_ _) | (with_reducible refine Below.drew ?_) | (with_reducible refine below_drewN ?_ _))) <;> (first | omega | (simp <;> omega))))).mono ?_
      rintro e w2 ⟨x1, y1, er1, ns1, A1, d1, rfl, hx1, hn1, hb2⟩
      have S2 : Below wr.heap.size wr w2 := kept_call hb2 (by (repeat' (first | (with_reducible exact Below.refl _ _) | (with_reducible refine Below.setCell ?_ ?_ _) | (with_reducible refine Below.alloc ?_ ?_ _) | (with_reducible refine Below.drew ?_) | (with_reducible refine below_drewN ?_ _))) <;> (first | omega | (simp <;> omega)))
      have Z2 := S2.size
      have HN1 := Lib.hid (hn1)
      replace HK := Lib.hid (HK.out.below S2)
      replace HXS := Lib.hid (HXS.out.below S2)
      replace HKO := Lib.hid (HKO.out.below S2)
      replace HSD := Lib.hid (HSD.out.below S2)
      clear hb2 S2
      clear hn1
      go_wp2_with fail
      refine (within_any k 13 _ (by omega) (by omega)).mono ?_
      rintro e w3 ⟨rfl, rfl⟩
      go_wp2_with fail
      refine (within_any f 4 _ (by omega) (by omega)).mono ?_
      rintro e w3 ⟨rfl, rfl⟩
      go_wp2_with fail
      refine (RE2.out _ (HXS.out.below (by (repeat' (first | (with_reducible exact Below.refl _ _) | (with_reducible refine Below.setCell ?_ ?_ _) | (with_reducible refine Below.alloc ?_ ?_ _) | (with_reducible refine Below.drew ?_) | (with_reducible refine below_drewN ?_ _))) <;> (first | omega | (simp <;> omega)))) (HSD.out.below (by (repeat' (first | (with_reducible exact Below.refl _ _) | (with_reducible refine Below.setCell ?_ ?_ _) | (with_reducible refine Below.alloc ?_ ?_ _) | (with_reducible refine Below.drew ?_) | (with_reducible refine below_drewN ?_ _))) <;> (first | omega | (simp <;> omega))))).mono ?_
      rintro e w3 ⟨x2, y2, er2, ns2, A2', d2, rfl, hx2, hn2, hb3⟩
      have S3 : Below w2.heap.size w2 w3 := kept_call hb3 (by (repeat' (first | (with_reducible exact Below.refl _ _) | (with_reducible refine Below.setCell ?_ ?_ _) | (with_reducible refine Below.alloc ?_ ?_ _) | (with_reducible refine Below.drew ?_) | (with_reducible refine below_drewN ?_ _))) <;> (first | omega | (simp <;> omega)))
      have Z3 := S3.size
      have HN2 := Lib.hid (hn2)
      have HBA := Lib.hid (show Blk w3 w2.heap.size 35 #[.int .i64 x1, .int .i64 y1] from Blk.below (by first | exact Blk.new _ _ _ | exact setAll_blk [.int .i64 x1, .int .i64 y1] 0 _ #[.int .i64 0, .int .i64 0] (Blk.new _ _ _)) hb3)
      replace HK := Lib.hid (HK.out.below S3)
      replace HXS := Lib.hid (HXS.out.below S3)
      replace HKO := Lib.hid (HKO.out.below S3)
      replace HSD := Lib.hid (HSD.out.below S3)
      replace HN1 := Lib.hid (HN1.out.below S3)
      clear hb3 S3
      clear hn2
      obtain ⟨rfl, rfl, rfl, rfl⟩ := EstX_uniq hx1 hx2
      have hnl : ns1.length ≤ 32 := by
        rcases hx1 with ⟨_, _, _, rfl, _⟩ | ⟨_, _, _, _, _, ⟨_, _, _, rfl, _⟩ | ⟨_, _, _, rfl, _⟩⟩
        · simp
        · simp
        · exact drL_le _ _ _
      clear hx1 hx2
      obtain ⟨ca, fa, la, ea, ka⟩ := Blk.facts HBA.out
      go_wp2_with fail
      refine (nsame_yes _ _ _ _ ns1 (by omega) _ rfl _ (HN1.out.below (by (repeat' (first | (with_reducible exact Below.refl _ _) | (with_reducible refine Below.setCell ?_ ?_ _) | (with_reducible refine Below.alloc ?_ ?_ _) | (with_reducible refine Below.drew ?_) | (with_reducible refine below_drewN ?_ _))) <;> (first | omega | (simp <;> omega)))) (HN2.out.below (by (repeat' (first | (with_reducible exact Below.refl _ _) | (with_reducible refine Below.setCell ?_ ?_ _) | (with_reducible refine Below.alloc ?_ ?_ _) | (with_reducible refine Below.drew ?_) | (with_reducible refine below_drewN ?_ _))) <;> (first | omega | (simp <;> omega))))).mono ?_
      rintro e w4 ⟨rfl, hb4⟩
      have S4 : Below w3.heap.size w3 w4 := kept_call hb4 (by (repeat' (first | (with_reducible exact Below.refl _ _) | (with_reducible refine Below.setCell ?_ ?_ _) | (with_reducible refine Below.alloc ?_ ?_ _) | (with_reducible refine Below.drew ?_) | (with_reducible refine below_drewN ?_ _))) <;> (first | omega | (simp <;> omega)))
      have Z4 := S4.size
      replace HK := Lib.hid (HK.out.below S4)
      replace HXS := Lib.hid (HXS.out.below S4)
      replace HKO := Lib.hid (HKO.out.below S4)
      replace HSD := Lib.hid (HSD.out.below S4)
      replace HN1 := Lib.hid (HN1.out.below S4)
      replace HN2 := Lib.hid (HN2.out.below S4)
      replace HBA := Lib.hid (HBA.out.below S4)
      clear hb4 S4
      go_wp2
      go_roundg (2 - (q + 1))
      case measure => omega
      case rel => exact ⟨q + 1, by omega, by omega, by go_num, HKO.out.below (by (repeat' (first | (with_reducible exact Below.refl _ _) | (with_reducible refine Below.setCell ?_ ?_ _) | (with_reducible refine Below.alloc ?_ ?_ _) | (with_reducible refine Below.drew ?_) | (with_reducible refine below_drewN ?_ _))) <;> (first | omega | (simp <;> omega)))⟩
    · obtain rfl : q = 2 := by omega
      have gq : decide (((2 : Nat) : Int) < 2) = false := by decide
      have gq2 : decide ((2 : Int) < 2) = false := by decide
      clear HBL hXS
      go_wp2_with fail
      refine (known36_any _).mono ?_
      rintro e w21 ⟨rfl, hb21⟩
      have S21 : Below wr.heap.size wr w21 := kept_call hb21 (by (repeat' (first | (with_reducible exact Below.refl _ _) | (with_reducible refine Below.setCell ?_ ?_ _) | (with_reducible refine Below.alloc ?_ ?_ _) | (with_reducible refine Below.drew ?_) | (with_reducible refine below_drewN ?_ _))) <;> (first | omega | (simp <;> omega)))
      have Z21 := S21.size
      replace HK := Lib.hid (HK.out.below S21)
      clear hb21 S21
      go_wp2
      go_ret
      exact ⟨rfl, HK.out.below (by (repeat' (first | (with_reducible exact Below.refl _ _) | (with_reducible refine Below.setCell ?_ ?_ _) | (with_reducible refine Below.alloc ?_ ?_ _) | (with_reducible refine Below.drew ?_) | (with_reducible refine below_drewN ?_ _))) <;> (first | omega | (simp <;> omega)))⟩
theorem ests_row (A : Option Addr) (len cap : Nat) (zs : List (Int × Int)) (_ : A = none → cap = 0) {w : World} (h : SpansAt w A len zs) (_ : ∀ z ∈ zs, IntIn z.1 ∧ IntIn z.2) (B : Option Addr) (blen bcap : Nat) (bs : List Int) (kk : IntsAt w B blen bs) (v : Int) (hv : IntIn v) (k : Int) (hk : IntIn k) (f : Int) (hf : IntIn f) (W : World) (hw : W = w) :
    Walked 12 #[.slice A len cap, .slice B blen bcap, .int .i64 v, .int .i64 k, .int .i64 f] W := by
  subst hw; exact ests_walk A B len cap blen bcap zs bs v k f W h kk
end Go.Proofs.Ytlfkkfdolnkjfaa
