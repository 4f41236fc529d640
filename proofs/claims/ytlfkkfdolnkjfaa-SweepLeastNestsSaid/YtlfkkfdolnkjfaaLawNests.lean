/- The walk of SweepLeastNests. -/
import Derived.Test.YtlfkkfdolnkjfaaCalmP
import Derived.Test.YtlfkkfdolnkjfaaJ14
import Derived.Test.YtlfkkfdolnkjfaaLaw34S
import Derived.Test.YtlfkkfdolnkjfaaLawCounts
namespace Go.Proofs.Ytlfkkfdolnkjfaa
open Go.RowKit Go.Shelf Go.Sort
set_option linter.unusedSimpArgs false
set_option linter.unusedVariables false

def NsRel (w : World) (n : Nat) (i : Value) (G : Nat) (wr : World) : Prop := ∃ p : Nat, p ≤ n ∧ G = n - p ∧ i = .int .i64 p ∧ Below w.heap.size w wr
def fndB (a : List (Int × Int)) (z : Int × Int) : Bool := a.any fun q => insB z.1 z.2 q.1 q.2
theorem fndB_snoc (a : List (Int × Int)) (y z : Int × Int) : fndB (a ++ [y]) z = (fndB a z || insB z.1 z.2 y.1 y.2) := by simp [fndB]
def FnRel (w : World) (a : List (Int × Int)) (z : Int × Int) (f i : Value) (G : Nat) (wr : World) : Prop := ∃ p : Nat, p ≤ a.length ∧ G = a.length - p ∧ i = .int .i64 p ∧ f = .bool (fndB (a.take p) z) ∧ Below w.heap.size w wr
theorem runion_small {w w' : World} {zs : List (Int × Int)} {e : Ending} (h : RUnionR w zs e w') (hc : ckE zs = 0) : ∃ (A : Option Addr) (cap : Nat) (us : List (Int × Int)), e = .returned (.tuple #[.slice A us.length cap, .int .i64 0]) ∧ SpansAt w' A us.length us ∧ gapsS us ∧ (∀ z ∈ us, vS z.1 z.2 = true) ∧ (∀ t, anyIn t us = anyIn t zs) ∧ Below w.heap.size w w' := by
  have h64 := ckE_ok hc
  have hb := bad_of h64.2
  obtain ⟨hb', ⟨h1, h2⟩ | ⟨h0, h1, h2⟩ | ⟨h0, h1, us, A, cap, he, hsp, -, g1, g2, g3⟩⟩ := h
  · rw [hb] at h1; cases h1
  · omega
  · exact ⟨A, cap, us, he, hsp, g1, g2, g3, hb'⟩
theorem nests_fnd {zs a b : List (Int × Int)} {k : Int} (hc : ckE zs = 0) (hk : 1 ≤ k) (ha : LX zs k a) (hb : LX zs (k + 1) b) {p : Nat} (hp : p < b.length) : fndB a (b.getD p (0, 0)) = true := by
  have hm : b.getD p (0, 0) ∈ b := by rw [List.getD_eq_getElem?_getD, List.getElem?_eq_getElem hp]; exact List.getElem_mem _
  obtain ⟨q, hq, h⟩ := lx_nests hc hk ha hb _ hm
  exact List.any_eq_true.2 ⟨q, hq, h⟩
set_option maxRecDepth 100000 in
set_option maxHeartbeats 2000000 in
theorem nests_walk (LA : Option Addr) (llen lcap : Nat) (ls : List Int) (n : Int) (n0 : 0 ≤ n) (n1 : n < 256) (w : World) (k : IntsAt w LA llen ls) :
    Calls Try.prog 6 #[.slice LA llen lcap, .int .u8 n] w (RB w (.bool true)) := by
  have HK := Lib.hid (show Kp w w from Below.refl _ _)
  have HLI := Lib.hid k; clear k
  obtain ⟨m, hm⟩ : ∃ m : Int, n % 8 = m := ⟨_, rfl⟩
  have hm0 : 0 ≤ m := by omega
  have hm1 : m < 8 := by omega
  have wt : n.tmod 8 = m := by rw [Int.tmod_eq_emod_of_nonneg n0]; exact hm
  have w8 : IntKind.u8.wrap (n.tmod 8) = m := by rw [wt]; unfold IntKind.wrap; simp [IntKind.bits, IntKind.signed]; omega
  have w8b : IntKind.u8.wrap m = m := by rw [wt] at w8; exact w8
  have wi : IntKind.i64.wrap m = m := IntWalk.i64_in _ (by omega)
  obtain ⟨kk, hkk⟩ : ∃ kk : Int, 1 + m = kk := ⟨_, rfl⟩
  have k1 : 1 ≤ kk := by omega
  have k8 : kk ≤ 8 := by omega
  have wk : IntKind.i64.wrap (1 + m) = kk := by rw [IntWalk.i64_in _ (by omega)]; exact hkk
  have wk1 : IntKind.i64.wrap (kk + 1) = kk + 1 := IntWalk.i64_in _ (by omega)
  have HM := Lib.hid hm; have HKK := Lib.hid hkk; clear hm hkk
  go_enter Try.func6, Try.ntmps6
  go_wp2_with fail
  refine (new_any LA llen lcap ls _ HLI.out).mono ?_
  rintro e w1 ⟨rfl, ht1, hb1⟩
  have Z1 := hb1.size
  have T1 := ht1.lt
  replace HK := Lib.hid (HK.out.below hb1)
  clear hb1
  have HT := Lib.hid ht1; clear ht1
  go_wp2_with fail
  refine (tspans_any _ 12 20 _ HT.out (by omega) (by omega) (by omega) (by omega)).mono ?_
  rintro e w2 ⟨A2, c2, ss, rfl, sl, sN, srow, ssm, -, hg2⟩
  have Z2 : w1.heap.size ≤ w2.heap.size := hg2.size
  have HK2 := Lib.hid (show Kp w w2 from below_grown HK.out.b hg2 (Nat.le_refl _) Z1)
  clear HK; have HK := HK2; clear HK2 HT hg2
  have ZW2 := HK.out.b.size
  have hss := spans_of_row srow (by omega)
  have HS := Lib.hid hss; have HSM := Lib.hid ssm; have HSN := Lib.hid sN; clear hss srow ssm sN
  have hck := small_ck HSM.out (by omega) (by omega)
  have l0 := lE_ok hck (show ¬ kk < 1 by omega)
  have l1 := lE_ok hck (show ¬ kk + 1 < 1 by omega)
  have l2 := lE_ok hck (show ¬ (1 : Int) < 1 by omega)
  have HL0 := Lib.hid l0; have HL1 := Lib.hid l1; have HL2 := Lib.hid l2; clear l0 l1 l2
  have HCK := Lib.hid hck; clear hck HSM
  have hnn := HSN.out
  go_wp2_with fail
  refine (sLeast_any A2 ss.length c2 ss kk _ (HS.out.below (by (repeat' (first | (with_reducible exact Below.refl _ _) | (with_reducible refine Below.setCell ?_ ?_ _) | (with_reducible refine Below.alloc ?_ ?_ _) | (with_reducible refine Below.drew ?_) | (with_reducible refine below_drewN ?_ _))) <;> (first | omega | (simp <;> omega))))).mono ?_
  rintro e w1 ⟨A3, c3, ga, rfl, hpp, hxa, hb1⟩
  have S1 : Below w2.heap.size w2 w1 := kept_call hb1 (by (repeat' (first | (with_reducible exact Below.refl _ _) | (with_reducible refine Below.setCell ?_ ?_ _) | (with_reducible refine Below.alloc ?_ ?_ _) | (with_reducible refine Below.drew ?_) | (with_reducible refine below_drewN ?_ _))) <;> (first | omega | (simp <;> omega)))
  have Z1 := S1.size
  have HA := Lib.hid (hpp)
  replace HK := Lib.hid (HK.out.below S1)
  replace HS := Lib.hid (HS.out.below S1)
  clear hb1 S1
  clear hpp
  rw [HL0.out]
  clear w8 w8b wi wk wt
  go_wp2_with fail
  refine (sLeast_any A2 ss.length c2 ss (kk + 1) _ (HS.out.below (by (repeat' (first | (with_reducible exact Below.refl _ _) | (with_reducible refine Below.setCell ?_ ?_ _) | (with_reducible refine Below.alloc ?_ ?_ _) | (with_reducible refine Below.drew ?_) | (with_reducible refine below_drewN ?_ _))) <;> (first | omega | (simp <;> omega))))).mono ?_
  rintro e w2 ⟨A4, c4, gb, rfl, hpp, hxb, hb2⟩
  have S2 : Below w1.heap.size w1 w2 := kept_call hb2 (by (repeat' (first | (with_reducible exact Below.refl _ _) | (with_reducible refine Below.setCell ?_ ?_ _) | (with_reducible refine Below.alloc ?_ ?_ _) | (with_reducible refine Below.drew ?_) | (with_reducible refine below_drewN ?_ _))) <;> (first | omega | (simp <;> omega)))
  have Z2 := S2.size
  have HB := Lib.hid (hpp)
  replace HK := Lib.hid (HK.out.below S2)
  replace HS := Lib.hid (HS.out.below S2)
  replace HA := Lib.hid (HA.out.below S2)
  clear hb2 S2
  clear hpp
  rw [HL1.out]
  go_wp2_with fail
  refine (sLeast_any A2 ss.length c2 ss 1 _ (HS.out.below (by (repeat' (first | (with_reducible exact Below.refl _ _) | (with_reducible refine Below.setCell ?_ ?_ _) | (with_reducible refine Below.alloc ?_ ?_ _) | (with_reducible refine Below.drew ?_) | (with_reducible refine below_drewN ?_ _))) <;> (first | omega | (simp <;> omega))))).mono ?_
  rintro e w3 ⟨A5, c5, gc, rfl, hpp, hxc, hb3⟩
  have S3 : Below w2.heap.size w2 w3 := kept_call hb3 (by (repeat' (first | (with_reducible exact Below.refl _ _) | (with_reducible refine Below.setCell ?_ ?_ _) | (with_reducible refine Below.alloc ?_ ?_ _) | (with_reducible refine Below.drew ?_) | (with_reducible refine below_drewN ?_ _))) <;> (first | omega | (simp <;> omega)))
  have Z3 := S3.size
  have HC := Lib.hid (hpp)
  replace HK := Lib.hid (HK.out.below S3)
  replace HS := Lib.hid (HS.out.below S3)
  replace HA := Lib.hid (HA.out.below S3)
  replace HB := Lib.hid (HB.out.below S3)
  clear hb3 S3
  clear hpp
  rw [HL2.out]
  go_wp2_with fail
  refine ((runion_any A2 ss.length c2 ss HSN.out _ (HS.out.below (by (repeat' (first | (with_reducible exact Below.refl _ _) | (with_reducible refine Below.setCell ?_ ?_ _) | (with_reducible refine Below.alloc ?_ ?_ _) | (with_reducible refine Below.drew ?_) | (with_reducible refine below_drewN ?_ _))) <;> (first | omega | (simp <;> omega))))).mono (fun _ _ h => runion_small h HCK.out)).mono ?_
  rintro e w4 ⟨A6, c6, us, rfl, hpp, hu1, hu2, hu3, hb4⟩
  have S4 : Below w3.heap.size w3 w4 := kept_call hb4 (by (repeat' (first | (with_reducible exact Below.refl _ _) | (with_reducible refine Below.setCell ?_ ?_ _) | (with_reducible refine Below.alloc ?_ ?_ _) | (with_reducible refine Below.drew ?_) | (with_reducible refine below_drewN ?_ _))) <;> (first | omega | (simp <;> omega)))
  have Z4 := S4.size
  have HU := Lib.hid (hpp)
  replace HK := Lib.hid (HK.out.below S4)
  replace HS := Lib.hid (HS.out.below S4)
  replace HA := Lib.hid (HA.out.below S4)
  replace HB := Lib.hid (HB.out.below S4)
  replace HC := Lib.hid (HC.out.below S4)
  clear hb4 S4
  clear hpp
  obtain rfl := lx_union HCK.out hxc hu1 hu2 hu3
  clear hxc hu1 hu2 hu3
  go_wp2_with fail
  refine (smost_any A2 ss.length c2 ss _ (HS.out.below (by (repeat' (first | (with_reducible exact Below.refl _ _) | (with_reducible refine Below.setCell ?_ ?_ _) | (with_reducible refine Below.alloc ?_ ?_ _) | (with_reducible refine Below.drew ?_) | (with_reducible refine below_drewN ?_ _))) <;> (first | omega | (simp <;> omega))))).mono ?_
  rintro e w5 ⟨mm, A7, c7, gd, rfl, hpp, hxm, hb5⟩
  have S5 : Below w4.heap.size w4 w5 := kept_call hb5 (by (repeat' (first | (with_reducible exact Below.refl _ _) | (with_reducible refine Below.setCell ?_ ?_ _) | (with_reducible refine Below.alloc ?_ ?_ _) | (with_reducible refine Below.drew ?_) | (with_reducible refine below_drewN ?_ _))) <;> (first | omega | (simp <;> omega)))
  have Z5 := S5.size
  have HD := Lib.hid (hpp)
  replace HK := Lib.hid (HK.out.below S5)
  replace HS := Lib.hid (HS.out.below S5)
  replace HA := Lib.hid (HA.out.below S5)
  replace HB := Lib.hid (HB.out.below S5)
  replace HC := Lib.hid (HC.out.below S5)
  replace HU := Lib.hid (HU.out.below S5)
  clear hb5 S5
  clear hpp
  rw [HCK.out]
  have hmm : 0 ≤ mm ∧ mm ≤ 64 := by obtain ⟨qs, hq1, rfl, -⟩ := mx_parts hxm HCK.out; obtain ⟨q1, q2, -, -⟩ := px_parts hq1 HCK.out; have := mostP_in (pc_num q1 q2 (by omega)); exact ⟨this.1, this.2.1⟩
  obtain ⟨mm0, mm64⟩ := hmm
  have wm1 : IntKind.i64.wrap (mm + 1) = mm + 1 := IntWalk.i64_in _ (by omega)
  have HL3 := Lib.hid (lE_ok HCK.out (show ¬ mm + 1 < 1 by omega))
  go_wp2_with fail
  refine (sLeast_any A2 ss.length c2 ss (mm + 1) _ (HS.out.below (by (repeat' (first | (with_reducible exact Below.refl _ _) | (with_reducible refine Below.setCell ?_ ?_ _) | (with_reducible refine Below.alloc ?_ ?_ _) | (with_reducible refine Below.drew ?_) | (with_reducible refine below_drewN ?_ _))) <;> (first | omega | (simp <;> omega))))).mono ?_
  rintro e w6 ⟨A8, c8, gx, rfl, hpp, hxx, hb6⟩
  have S6 : Below w5.heap.size w5 w6 := kept_call hb6 (by (repeat' (first | (with_reducible exact Below.refl _ _) | (with_reducible refine Below.setCell ?_ ?_ _) | (with_reducible refine Below.alloc ?_ ?_ _) | (with_reducible refine Below.drew ?_) | (with_reducible refine below_drewN ?_ _))) <;> (first | omega | (simp <;> omega)))
  have Z6 := S6.size
  replace HK := Lib.hid (HK.out.below S6)
  replace HS := Lib.hid (HS.out.below S6)
  replace HA := Lib.hid (HA.out.below S6)
  replace HB := Lib.hid (HB.out.below S6)
  replace HC := Lib.hid (HC.out.below S6)
  replace HU := Lib.hid (HU.out.below S6)
  replace HD := Lib.hid (HD.out.below S6)
  clear hb6 S6
  clear hpp
  rw [HL3.out]
  obtain ⟨-, -, rfl, hz, hmd⟩ := mx_law HCK.out hxm hxx
  have HZ := Lib.hid hz; have HMD := Lib.hid hmd; clear hz hmd hxx hxm wm1
  simp only [List.length_nil]
  have HXA := Lib.hid hxa; have HXB := Lib.hid hxb; clear hxa hxb
  go_wp2_with fail
  refine (same_yes (HC.out.below (by (repeat' (first | (with_reducible exact Below.refl _ _) | (with_reducible refine Below.setCell ?_ ?_ _) | (with_reducible refine Below.alloc ?_ ?_ _) | (with_reducible refine Below.drew ?_) | (with_reducible refine below_drewN ?_ _))) <;> (first | omega | (simp <;> omega)))) (HU.out.below (by (repeat' (first | (with_reducible exact Below.refl _ _) | (with_reducible refine Below.setCell ?_ ?_ _) | (with_reducible refine Below.alloc ?_ ?_ _) | (with_reducible refine Below.drew ?_) | (with_reducible refine below_drewN ?_ _))) <;> (first | omega | (simp <;> omega))))).mono ?_
  rintro e w7 ⟨rfl, hb7⟩
  have S7 : Below w6.heap.size w6 w7 := kept_call hb7 (by (repeat' (first | (with_reducible exact Below.refl _ _) | (with_reducible refine Below.setCell ?_ ?_ _) | (with_reducible refine Below.alloc ?_ ?_ _) | (with_reducible refine Below.drew ?_) | (with_reducible refine below_drewN ?_ _))) <;> (first | omega | (simp <;> omega)))
  have Z7 := S7.size
  replace HK := Lib.hid (HK.out.below S7)
  replace HS := Lib.hid (HS.out.below S7)
  replace HA := Lib.hid (HA.out.below S7)
  replace HB := Lib.hid (HB.out.below S7)
  replace HC := Lib.hid (HC.out.below S7)
  replace HU := Lib.hid (HU.out.below S7)
  replace HD := Lib.hid (HD.out.below S7)
  clear hb7 S7
  clear HC HU
  go_wp2
  obtain ⟨w20, rfl⟩ : ∃ x : World, x = w7 := ⟨_, rfl⟩
  have Zw20 : w.heap.size ≤ w20.heap.size := HK.out.b.size
  go_loopg [20] gb.length (fun G i wr => NsRel w20 gb.length i G wr)
  case atStart => exact ⟨0, by omega, by omega, rfl, Below.refl _ _⟩
  case round =>
    obtain ⟨p, hp, rfl, rfl, KR⟩ := hrel
    have ZR := KR.size
    replace HK := Lib.hid (HK.out.below KR)
    replace HS := Lib.hid (HS.out.below KR)
    replace HA := Lib.hid (HA.out.below KR)
    replace HB := Lib.hid (HB.out.below KR)
    replace HD := Lib.hid (HD.out.below KR)
    have HR := Lib.hid (show Kp w20 wr from KR)
    clear KR
    have hbl := HB.out.2.1
    by_cases hlp : p < gb.length
    · have gp : decide ((p : Int) < (gb.length : Int)) = true := decide_eq_true (by omega)
      have gpn : decide (p < gb.length) = true := decide_eq_true hlp
      have wp : IntKind.i64.wrap ((p : Int) + 1) = ((p + 1 : Nat) : Int) := by rw [IntWalk.i64_in _ (by omega)]; omega
      have hfn := nests_fnd HCK.out k1 HXA.out HXB.out hlp
      have HFN := Lib.hid hfn; clear hfn
      obtain ⟨bl, off, rfl, hbl2, hcs⟩ := HB.out.2.2 (by omega)
      obtain ⟨e0, e1⟩ := hcs p hlp
      clear hcs
      generalize gb.getD p (0, 0) = z at e0 e1 HFN
      obtain ⟨lo, hi⟩ := z
      dsimp only at e0 e1
      go_wp2
      obtain ⟨w21, rfl⟩ : ∃ x : World, x = wr := ⟨_, rfl⟩
      have Zw21 : w.heap.size ≤ w21.heap.size := HK.out.b.size
      go_loopg [21, 22] ga.length (fun G f i wr => FnRel w21 ga (lo, hi) f i G wr)
      case atStart => exact ⟨0, by omega, by omega, rfl, by simp [fndB], Below.refl _ _⟩
      case round =>
        obtain ⟨q, hq, rfl, rfl, rfl, KQ⟩ := hrel
        have ZQ := KQ.size
        have e0 := (KQ.cell (p := ⟨bl, off + p * 2, none⟩) hbl2).trans e0
        have e1 := (KQ.cell (p := ⟨bl, off + p * 2 + 1, none⟩) hbl2).trans e1
        have hbl3 : bl < wr.heap.size := by omega
        replace HK := Lib.hid (HK.out.below KQ)
        replace HS := Lib.hid (HS.out.below KQ)
        replace HA := Lib.hid (HA.out.below KQ)
        replace HB := Lib.hid (HB.out.below KQ)
        replace HD := Lib.hid (HD.out.below KQ)
        replace HR := Lib.hid (HR.out.below KQ)
        have HRQ := Lib.hid (show Kp w21 wr from KQ)
        clear KQ
        have hal := HA.out.2.1
        by_cases hlq : q < ga.length
        · have gq : decide ((q : Int) < (ga.length : Int)) = true := decide_eq_true (by omega)
          have gqn : decide (q < ga.length) = true := decide_eq_true hlq
          have wq : IntKind.i64.wrap ((q : Int) + 1) = ((q + 1 : Nat) : Int) := by rw [IntWalk.i64_in _ (by omega)]; omega
          have hst : fndB (ga.take (q + 1)) (lo, hi) = (fndB (ga.take q) (lo, hi) || insB lo hi (ga.getD q (0, 0)).1 (ga.getD q (0, 0)).2) := by rw [take_nextS ga q hlq, fndB_snoc]
          obtain ⟨al, aoff, rfl, hal2, hcs⟩ := HA.out.2.2 (by omega)
          obtain ⟨d0, d1⟩ := hcs q hlq
          clear hcs
          generalize ga.getD q (0, 0) = y at d0 d1 hst
          obtain ⟨ylo, yhi⟩ := y
          dsimp only at d0 d1 hst
          obtain ⟨ib, hib⟩ : ∃ ib, insB lo hi ylo yhi = ib := ⟨_, rfl⟩
          have RI := Lib.hid (fun W => hib ▸ rinside_all lo hi ylo yhi W)
          obtain ⟨fb, hfb⟩ : ∃ fb, fndB (ga.take q) (lo, hi) = fb := ⟨_, rfl⟩
          rw [hib, hfb] at hst
          rw [hfb]
          have HST := Lib.hid hst; clear hst hib hfb
          have E := Lib.hid (fun (W : World) (hW : Below wr.heap.size wr W) => And.intro hbl3 (And.intro hal2 (And.intro ((hW.cell (p := ⟨bl, off + p * 2, none⟩) hbl3).trans e0) (And.intro ((hW.cell (p := ⟨bl, off + p * 2 + 1, none⟩) hbl3).trans e1) (And.intro ((hW.cell (p := ⟨al, aoff + q * 2, none⟩) hal2).trans d0) ((hW.cell (p := ⟨al, aoff + q * 2 + 1, none⟩) hal2).trans d1))))))
          cases fb with
          | true =>
            go_wp2_with fail
            refine' wp_region_calmS (by kernel_rfl) (fun n us w' => Below wr.heap.size wr w' ∧ (n = 0 → us[0]? = some (.bool true))) (fun _ _ => True) [(Is _), (Is _), (Is _), (Is _), (Is _), (Is _), (Is _), (Is _), (Is _), (Is _), (Is _), (Is _), (Is _)] [[], [0], [1], [1], [2, 3, 1], [4, 1], [1], [1], [6, 7, 1], [8, 1], [5, 9, 1], [1, 10], [11]] [12] [12] rfl (by kernel_rfl) (fun u => by (simp only [calmPut, Act.put, List.setIfInBounds_toArray, List.set_cons_zero, List.set_cons_succ, Nat.zero_add, Nat.reduceAdd]; rfl)) ?_ (calmKeep_cons keep_is' (calmKeep_cons keep_is' (calmKeep_cons keep_is' (calmKeep_cons keep_is' (calmKeep_cons keep_is' (calmKeep_cons keep_is' (calmKeep_cons keep_is' (calmKeep_cons keep_is' (calmKeep_cons keep_is' (calmKeep_cons keep_is' (calmKeep_cons keep_is' (calmKeep_cons keep_is' (calmKeep_cons keep_is' (calmKeep_nil)))))))))))))) ?_ ?_
            · skip
              exact ⟨(by (repeat' (first | (with_reducible exact Below.refl _ _) | (with_reducible refine Below.setCell ?_ ?_ _) | (with_reducible refine Below.alloc ?_ ?_ _) | (with_reducible refine Below.drew ?_) | (with_reducible refine below_drewN ?_ _))) <;> (first | omega | (simp <;> omega))), fun _ => rfl⟩
            rotate_left 13
            · skip
              refine calmSteps_cons (fun u wq n hn hn2 hC hk K hK => ?_) ?_
              · obtain ⟨hP, hU⟩ := hC
                clear hk
                have hn0 : n = 0 := Nat.le_zero.1 (hn2 0 12 rfl (by kernel_rfl))
                have hu : u 12 = .bool true := Option.some.inj (show some (u 12) = some _ from hU hn0)
                simp only [hu] at hK ⊢
                have HU := Lib.hid hu; clear hu
                go_simp
                exact hK _ _ _ rfl ⟨hP, hU⟩ trivial rfl
              refine calmSteps_cons (fun u wq n hn hn2 hC hk K hK => ?_) ?_
              · obtain ⟨hP, hU⟩ := hC
                simp only [calmKnown, List.getElem?_cons_zero, List.getElem?_cons_succ, and_true, Is, Pure, Option.some.injEq, List.getD_cons_zero, List.getD_cons_succ, List.map_cons, List.map_nil] at hk
                have h0 := hk; clear hk
                simp only [h0] at hK ⊢
                have H0 := Lib.hid h0; clear h0
                go_simp
                exact hK _ _ _ rfl ⟨hP, hU⟩ trivial rfl
              refine calmSteps_cons (fun u wq n hn hn2 hC hk K hK => ?_) ?_
              · obtain ⟨hP, hU⟩ := hC
                simp only [calmKnown, List.getElem?_cons_zero, List.getElem?_cons_succ, and_true, Is, Pure, Option.some.injEq, List.getD_cons_zero, List.getD_cons_succ, List.map_cons, List.map_nil] at hk
                have h1 := hk; clear hk
                simp only [h1] at hK ⊢
                have H1 := Lib.hid h1; clear h1
                go_simp
                exact hK _ _ _ rfl ⟨hP, hU⟩ trivial rfl
              refine calmSteps_cons (fun u wq n hn hn2 hC hk K hK => ?_) ?_
              · obtain ⟨hP, hU⟩ := hC
                simp only [calmKnown, List.getElem?_cons_zero, List.getElem?_cons_succ, and_true, Is, Pure, Option.some.injEq, List.getD_cons_zero, List.getD_cons_succ, List.map_cons, List.map_nil] at hk
                have h1 := hk; clear hk
                simp only [h1] at hK ⊢
                have H1 := Lib.hid h1; clear h1
                go_simp
                exact hK _ _ _ rfl ⟨hP, hU⟩ trivial rfl
              refine calmSteps_cons (fun u wq n hn hn2 hC hk K hK => ?_) ?_
              · obtain ⟨hP, hU⟩ := hC
                simp only [calmKnown, List.getElem?_cons_zero, List.getElem?_cons_succ, and_true, Is, Pure, Option.some.injEq, List.getD_cons_zero, List.getD_cons_succ, List.map_cons, List.map_nil] at hk
                obtain ⟨h2, h3, h1⟩ := hk
                simp only [h2, h3, h1] at hK ⊢
                have H2 := Lib.hid h2; clear h2; have H3 := Lib.hid h3; clear h3; have H1 := Lib.hid h1; clear h1
                go_simp
                exact hK _ _ _ rfl ⟨hP, hU⟩ trivial rfl
              refine calmSteps_cons (fun u wq n hn hn2 hC hk K hK => ?_) ?_
              · obtain ⟨hP, hU⟩ := hC
                simp only [calmKnown, List.getElem?_cons_zero, List.getElem?_cons_succ, and_true, Is, Pure, Option.some.injEq, List.getD_cons_zero, List.getD_cons_succ, List.map_cons, List.map_nil] at hk
                obtain ⟨h4, h1⟩ := hk
                simp only [h4, h1] at hK ⊢
                have H4 := Lib.hid h4; clear h4; have H1 := Lib.hid h1; clear h1
                obtain ⟨y8, y9, y0, y1, y2, y3⟩ := E.out _ hP
                go_simp
                exact hK _ _ _ rfl ⟨hP, hU⟩ trivial rfl
              refine calmSteps_cons (fun u wq n hn hn2 hC hk K hK => ?_) ?_
              · obtain ⟨hP, hU⟩ := hC
                simp only [calmKnown, List.getElem?_cons_zero, List.getElem?_cons_succ, and_true, Is, Pure, Option.some.injEq, List.getD_cons_zero, List.getD_cons_succ, List.map_cons, List.map_nil] at hk
                have h1 := hk; clear hk
                simp only [h1] at hK ⊢
                have H1 := Lib.hid h1; clear h1
                go_simp
                exact hK _ _ _ rfl ⟨hP, hU⟩ trivial rfl
              refine calmSteps_cons (fun u wq n hn hn2 hC hk K hK => ?_) ?_
              · obtain ⟨hP, hU⟩ := hC
                simp only [calmKnown, List.getElem?_cons_zero, List.getElem?_cons_succ, and_true, Is, Pure, Option.some.injEq, List.getD_cons_zero, List.getD_cons_succ, List.map_cons, List.map_nil] at hk
                have h1 := hk; clear hk
                simp only [h1] at hK ⊢
                have H1 := Lib.hid h1; clear h1
                go_simp
                exact hK _ _ _ rfl ⟨hP, hU⟩ trivial rfl
              refine calmSteps_cons (fun u wq n hn hn2 hC hk K hK => ?_) ?_
              · obtain ⟨hP, hU⟩ := hC
                simp only [calmKnown, List.getElem?_cons_zero, List.getElem?_cons_succ, and_true, Is, Pure, Option.some.injEq, List.getD_cons_zero, List.getD_cons_succ, List.map_cons, List.map_nil] at hk
                obtain ⟨h6, h7, h1⟩ := hk
                simp only [h6, h7, h1] at hK ⊢
                have H6 := Lib.hid h6; clear h6; have H7 := Lib.hid h7; clear h7; have H1 := Lib.hid h1; clear h1
                go_simp
                exact hK _ _ _ rfl ⟨hP, hU⟩ trivial rfl
              refine calmSteps_cons (fun u wq n hn hn2 hC hk K hK => ?_) ?_
              · obtain ⟨hP, hU⟩ := hC
                simp only [calmKnown, List.getElem?_cons_zero, List.getElem?_cons_succ, and_true, Is, Pure, Option.some.injEq, List.getD_cons_zero, List.getD_cons_succ, List.map_cons, List.map_nil] at hk
                obtain ⟨h8, h1⟩ := hk
                simp only [h8, h1] at hK ⊢
                have H8 := Lib.hid h8; clear h8; have H1 := Lib.hid h1; clear h1
                obtain ⟨y8, y9, y0, y1, y2, y3⟩ := E.out _ hP
                go_simp
                exact hK _ _ _ rfl ⟨hP, hU⟩ trivial rfl
              refine calmSteps_cons (fun u wq n hn hn2 hC hk K hK => ?_) ?_
              · obtain ⟨hP, hU⟩ := hC
                simp only [calmKnown, List.getElem?_cons_zero, List.getElem?_cons_succ, and_true, Is, Pure, Option.some.injEq, List.getD_cons_zero, List.getD_cons_succ, List.map_cons, List.map_nil] at hk
                obtain ⟨h5, h9, h1⟩ := hk
                simp only [h5, h9, h1] at hK ⊢
                have H5 := Lib.hid h5; clear h5; have H9 := Lib.hid h9; clear h9; have H1 := Lib.hid h1; clear h1
                go_simp
                exact hK _ _ _ rfl ⟨hP, hU⟩ trivial rfl
              refine calmSteps_cons (fun u wq n hn hn2 hC hk K hK => ?_) ?_
              · obtain ⟨hP, hU⟩ := hC
                simp only [calmKnown, List.getElem?_cons_zero, List.getElem?_cons_succ, and_true, Is, Pure, Option.some.injEq, List.getD_cons_zero, List.getD_cons_succ, List.map_cons, List.map_nil] at hk
                obtain ⟨h1, h10⟩ := hk
                simp only [h1, h10] at hK ⊢
                have H1 := Lib.hid h1; clear h1; have H10 := Lib.hid h10; clear h10
                go_simp
                exact hK _ _ _ rfl ⟨hP, hU⟩ trivial rfl
              refine calmSteps_cons (fun u wq n hn hn2 hC hk K hK => ?_) ?_
              · obtain ⟨hP, hU⟩ := hC
                simp only [calmKnown, List.getElem?_cons_zero, List.getElem?_cons_succ, and_true, Is, Pure, Option.some.injEq, List.getD_cons_zero, List.getD_cons_succ, List.map_cons, List.map_nil] at hk
                have h11 := hk; clear hk
                simp only [h11] at hK ⊢
                have H11 := Lib.hid h11; clear h11
                obtain rfl := hn 0 rfl
                go_simp
                exact hK _ _ _ rfl ⟨hP, fun h => absurd h (by decide)⟩ trivial rfl
              exact calmSteps_nil
            · intro u w8 hC hF
              obtain ⟨hP, hU⟩ := hC
              simp only [calmFacts, Is, and_true] at hF
              obtain ⟨f0, f1, f2, f3, f4, f5, f6, f7, f8, f9, f10, f11, f12⟩ := hF
              simp only [f0, f1, f2, f3, f4, f5, f6, f7, f8, f9, f10, f11, f12]
              clear f0 f1 f2 f3 f4 f5 f6 f7 f8 f9 f10 f11 f12 hU
              have Z8 := hP.size
              replace HK := Lib.hid (HK.out.below hP)
              replace HS := Lib.hid (HS.out.below hP)
              replace HA := Lib.hid (HA.out.below hP)
              replace HB := Lib.hid (HB.out.below hP)
              replace HD := Lib.hid (HD.out.below hP)
              replace HR := Lib.hid (HR.out.below hP)
              replace HRQ := Lib.hid (HRQ.out.below hP)
              clear hP
              go_wp2
              go_roundg (ga.length - (q + 1))
              case measure => omega
              case rel => exact ⟨q + 1, by omega, by omega, by go_num, by rw [HST.out]; simp, HRQ.out.below (by (repeat' (first | (with_reducible exact Below.refl _ _) | (with_reducible refine Below.setCell ?_ ?_ _) | (with_reducible refine Below.alloc ?_ ?_ _) | (with_reducible refine Below.drew ?_) | (with_reducible refine below_drewN ?_ _))) <;> (first | omega | (simp <;> omega)))⟩
          | false =>
            go_wp2_with fail
            refine' wp_region_calmS (by kernel_rfl) (fun n us w' => Below wr.heap.size wr w' ∧ (n = 0 → us[0]? = some (.bool false))) (fun _ _ => True) [(Is _), (Is _), (Is _), (Is _), (Is _), (Is _), (Is _), (Is _), (Is _), (Is _), (Is _), (Is _), (Is _)] [[], [0], [1], [1], [2, 3, 1], [4, 1], [1], [1], [6, 7, 1], [8, 1], [5, 9, 1], [1, 10], [11]] [12] [12] rfl (by kernel_rfl) (fun u => by (simp only [calmPut, Act.put, List.setIfInBounds_toArray, List.set_cons_zero, List.set_cons_succ, Nat.zero_add, Nat.reduceAdd]; rfl)) ?_ (calmKeep_cons keep_is' (calmKeep_cons keep_is' (calmKeep_cons keep_is' (calmKeep_cons keep_is' (calmKeep_cons keep_is' (calmKeep_cons keep_is' (calmKeep_cons keep_is' (calmKeep_cons keep_is' (calmKeep_cons keep_is' (calmKeep_cons keep_is' (calmKeep_cons keep_is' (calmKeep_cons keep_is' (calmKeep_cons keep_is' (calmKeep_nil)))))))))))))) ?_ ?_
            · skip
              exact ⟨(by (repeat' (first | (with_reducible exact Below.refl _ _) | (with_reducible refine Below.setCell ?_ ?_ _) | (with_reducible refine Below.alloc ?_ ?_ _) | (with_reducible refine Below.drew ?_) | (with_reducible refine below_drewN ?_ _))) <;> (first | omega | (simp <;> omega))), fun _ => rfl⟩
            rotate_left 13
            · skip
              refine calmSteps_cons (fun u wq n hn hn2 hC hk K hK => ?_) ?_
              · obtain ⟨hP, hU⟩ := hC
                clear hk
                have hn0 : n = 0 := Nat.le_zero.1 (hn2 0 12 rfl (by kernel_rfl))
                have hu : u 12 = .bool false := Option.some.inj (show some (u 12) = some _ from hU hn0)
                simp only [hu] at hK ⊢
                have HU := Lib.hid hu; clear hu
                go_simp
                exact hK _ _ _ rfl ⟨hP, hU⟩ trivial rfl
              refine calmSteps_cons (fun u wq n hn hn2 hC hk K hK => ?_) ?_
              · obtain ⟨hP, hU⟩ := hC
                simp only [calmKnown, List.getElem?_cons_zero, List.getElem?_cons_succ, and_true, Is, Pure, Option.some.injEq, List.getD_cons_zero, List.getD_cons_succ, List.map_cons, List.map_nil] at hk
                have h0 := hk; clear hk
                simp only [h0] at hK ⊢
                have H0 := Lib.hid h0; clear h0
                go_simp
                exact hK _ _ _ rfl ⟨hP, hU⟩ trivial rfl
              refine calmSteps_cons (fun u wq n hn hn2 hC hk K hK => ?_) ?_
              · obtain ⟨hP, hU⟩ := hC
                simp only [calmKnown, List.getElem?_cons_zero, List.getElem?_cons_succ, and_true, Is, Pure, Option.some.injEq, List.getD_cons_zero, List.getD_cons_succ, List.map_cons, List.map_nil] at hk
                have h1 := hk; clear hk
                simp only [h1] at hK ⊢
                have H1 := Lib.hid h1; clear h1
                go_simp
                exact hK _ _ _ rfl ⟨hP, hU⟩ trivial rfl
              refine calmSteps_cons (fun u wq n hn hn2 hC hk K hK => ?_) ?_
              · obtain ⟨hP, hU⟩ := hC
                simp only [calmKnown, List.getElem?_cons_zero, List.getElem?_cons_succ, and_true, Is, Pure, Option.some.injEq, List.getD_cons_zero, List.getD_cons_succ, List.map_cons, List.map_nil] at hk
                have h1 := hk; clear hk
                simp only [h1] at hK ⊢
                have H1 := Lib.hid h1; clear h1
                go_simp
                exact hK _ _ _ rfl ⟨hP, hU⟩ trivial rfl
              refine calmSteps_cons (fun u wq n hn hn2 hC hk K hK => ?_) ?_
              · obtain ⟨hP, hU⟩ := hC
                simp only [calmKnown, List.getElem?_cons_zero, List.getElem?_cons_succ, and_true, Is, Pure, Option.some.injEq, List.getD_cons_zero, List.getD_cons_succ, List.map_cons, List.map_nil] at hk
                obtain ⟨h2, h3, h1⟩ := hk
                simp only [h2, h3, h1] at hK ⊢
                have H2 := Lib.hid h2; clear h2; have H3 := Lib.hid h3; clear h3; have H1 := Lib.hid h1; clear h1
                go_simp
                exact hK _ _ _ rfl ⟨hP, hU⟩ trivial rfl
              refine calmSteps_cons (fun u wq n hn hn2 hC hk K hK => ?_) ?_
              · obtain ⟨hP, hU⟩ := hC
                simp only [calmKnown, List.getElem?_cons_zero, List.getElem?_cons_succ, and_true, Is, Pure, Option.some.injEq, List.getD_cons_zero, List.getD_cons_succ, List.map_cons, List.map_nil] at hk
                obtain ⟨h4, h1⟩ := hk
                simp only [h4, h1] at hK ⊢
                have H4 := Lib.hid h4; clear h4; have H1 := Lib.hid h1; clear h1
                obtain ⟨y8, y9, y0, y1, y2, y3⟩ := E.out _ hP
                go_simp
                exact hK _ _ _ rfl ⟨hP, hU⟩ trivial rfl
              refine calmSteps_cons (fun u wq n hn hn2 hC hk K hK => ?_) ?_
              · obtain ⟨hP, hU⟩ := hC
                simp only [calmKnown, List.getElem?_cons_zero, List.getElem?_cons_succ, and_true, Is, Pure, Option.some.injEq, List.getD_cons_zero, List.getD_cons_succ, List.map_cons, List.map_nil] at hk
                have h1 := hk; clear hk
                simp only [h1] at hK ⊢
                have H1 := Lib.hid h1; clear h1
                go_simp
                exact hK _ _ _ rfl ⟨hP, hU⟩ trivial rfl
              refine calmSteps_cons (fun u wq n hn hn2 hC hk K hK => ?_) ?_
              · obtain ⟨hP, hU⟩ := hC
                simp only [calmKnown, List.getElem?_cons_zero, List.getElem?_cons_succ, and_true, Is, Pure, Option.some.injEq, List.getD_cons_zero, List.getD_cons_succ, List.map_cons, List.map_nil] at hk
                have h1 := hk; clear hk
                simp only [h1] at hK ⊢
                have H1 := Lib.hid h1; clear h1
                go_simp
                exact hK _ _ _ rfl ⟨hP, hU⟩ trivial rfl
              refine calmSteps_cons (fun u wq n hn hn2 hC hk K hK => ?_) ?_
              · obtain ⟨hP, hU⟩ := hC
                simp only [calmKnown, List.getElem?_cons_zero, List.getElem?_cons_succ, and_true, Is, Pure, Option.some.injEq, List.getD_cons_zero, List.getD_cons_succ, List.map_cons, List.map_nil] at hk
                obtain ⟨h6, h7, h1⟩ := hk
                simp only [h6, h7, h1] at hK ⊢
                have H6 := Lib.hid h6; clear h6; have H7 := Lib.hid h7; clear h7; have H1 := Lib.hid h1; clear h1
                go_simp
                exact hK _ _ _ rfl ⟨hP, hU⟩ trivial rfl
              refine calmSteps_cons (fun u wq n hn hn2 hC hk K hK => ?_) ?_
              · obtain ⟨hP, hU⟩ := hC
                simp only [calmKnown, List.getElem?_cons_zero, List.getElem?_cons_succ, and_true, Is, Pure, Option.some.injEq, List.getD_cons_zero, List.getD_cons_succ, List.map_cons, List.map_nil] at hk
                obtain ⟨h8, h1⟩ := hk
                simp only [h8, h1] at hK ⊢
                have H8 := Lib.hid h8; clear h8; have H1 := Lib.hid h1; clear h1
                obtain ⟨y8, y9, y0, y1, y2, y3⟩ := E.out _ hP
                go_simp
                exact hK _ _ _ rfl ⟨hP, hU⟩ trivial rfl
              refine calmSteps_cons (fun u wq n hn hn2 hC hk K hK => ?_) ?_
              · obtain ⟨hP, hU⟩ := hC
                simp only [calmKnown, List.getElem?_cons_zero, List.getElem?_cons_succ, and_true, Is, Pure, Option.some.injEq, List.getD_cons_zero, List.getD_cons_succ, List.map_cons, List.map_nil] at hk
                obtain ⟨h5, h9, h1⟩ := hk
                simp only [h5, h9, h1] at hK ⊢
                have H5 := Lib.hid h5; clear h5; have H9 := Lib.hid h9; clear h9; have H1 := Lib.hid h1; clear h1
                go_wp2_with fail
                first | (with_reducible refine (RI.out _).mono ?_)
                rintro e w2 ⟨rfl, hbl⟩
                exact hK _ _ _ rfl ⟨kept_call hbl hP, hU⟩ trivial rfl
              refine calmSteps_cons (fun u wq n hn hn2 hC hk K hK => ?_) ?_
              · obtain ⟨hP, hU⟩ := hC
                simp only [calmKnown, List.getElem?_cons_zero, List.getElem?_cons_succ, and_true, Is, Pure, Option.some.injEq, List.getD_cons_zero, List.getD_cons_succ, List.map_cons, List.map_nil] at hk
                obtain ⟨h1, h10⟩ := hk
                simp only [h1, h10] at hK ⊢
                have H1 := Lib.hid h1; clear h1; have H10 := Lib.hid h10; clear h10
                go_simp
                exact hK _ _ _ rfl ⟨hP, hU⟩ trivial rfl
              refine calmSteps_cons (fun u wq n hn hn2 hC hk K hK => ?_) ?_
              · obtain ⟨hP, hU⟩ := hC
                simp only [calmKnown, List.getElem?_cons_zero, List.getElem?_cons_succ, and_true, Is, Pure, Option.some.injEq, List.getD_cons_zero, List.getD_cons_succ, List.map_cons, List.map_nil] at hk
                have h11 := hk; clear hk
                simp only [h11] at hK ⊢
                have H11 := Lib.hid h11; clear h11
                obtain rfl := hn 0 rfl
                go_simp
                exact hK _ _ _ rfl ⟨hP, fun h => absurd h (by decide)⟩ trivial rfl
              exact calmSteps_nil
            · intro u w8 hC hF
              obtain ⟨hP, hU⟩ := hC
              simp only [calmFacts, Is, and_true] at hF
              obtain ⟨f0, f1, f2, f3, f4, f5, f6, f7, f8, f9, f10, f11, f12⟩ := hF
              simp only [f0, f1, f2, f3, f4, f5, f6, f7, f8, f9, f10, f11, f12]
              clear f0 f1 f2 f3 f4 f5 f6 f7 f8 f9 f10 f11 f12 hU
              have Z8 := hP.size
              replace HK := Lib.hid (HK.out.below hP)
              replace HS := Lib.hid (HS.out.below hP)
              replace HA := Lib.hid (HA.out.below hP)
              replace HB := Lib.hid (HB.out.below hP)
              replace HD := Lib.hid (HD.out.below hP)
              replace HR := Lib.hid (HR.out.below hP)
              replace HRQ := Lib.hid (HRQ.out.below hP)
              clear hP
              go_wp2
              go_roundg (ga.length - (q + 1))
              case measure => omega
              case rel => exact ⟨q + 1, by omega, by omega, by go_num, by rw [HST.out]; simp, HRQ.out.below (by (repeat' (first | (with_reducible exact Below.refl _ _) | (with_reducible refine Below.setCell ?_ ?_ _) | (with_reducible refine Below.alloc ?_ ?_ _) | (with_reducible refine Below.drew ?_) | (with_reducible refine below_drewN ?_ _))) <;> (first | omega | (simp <;> omega)))⟩
        · obtain rfl : q = ga.length := by omega
          have gq : decide ((ga.length : Int) < (ga.length : Int)) = false := decide_eq_false (by omega)
          have hf9 : fndB (ga.take ga.length) (lo, hi) = true := by rw [List.take_length]; exact HFN.out
          rw [hf9]
          clear HRQ hf9
          go_wp2
          go_roundg (gb.length - (p + 1))
          case measure => omega
          case rel => exact ⟨p + 1, by omega, by omega, by go_num, HR.out.below (by (repeat' (first | (with_reducible exact Below.refl _ _) | (with_reducible refine Below.setCell ?_ ?_ _) | (with_reducible refine Below.alloc ?_ ?_ _) | (with_reducible refine Below.drew ?_) | (with_reducible refine below_drewN ?_ _))) <;> (first | omega | (simp <;> omega)))⟩
    · obtain rfl : p = gb.length := by omega
      have gp : decide ((gb.length : Int) < (gb.length : Int)) = false := decide_eq_false (by omega)
      clear HR
      by_cases hm0 : mm = 0
      · obtain ⟨rfl, rfl⟩ := HZ.out hm0
        have q1 : decide (mm = 0) = true := decide_eq_true hm0
        have q1b : (mm == 0) = true := by rw [beq_iff_eq]; exact hm0
        simp only [List.length_nil]
        go_wp2_with fail
        refine (known34_any _).mono ?_
        rintro e w51 ⟨rfl, hb51⟩
        have S51 : Below wr.heap.size wr w51 := kept_call hb51 (by (repeat' (first | (with_reducible exact Below.refl _ _) | (with_reducible refine Below.setCell ?_ ?_ _) | (with_reducible refine Below.alloc ?_ ?_ _) | (with_reducible refine Below.drew ?_) | (with_reducible refine below_drewN ?_ _))) <;> (first | omega | (simp <;> omega)))
        have Z51 := S51.size
        replace HK := Lib.hid (HK.out.below S51)
        replace HS := Lib.hid (HS.out.below S51)
        replace HA := Lib.hid (HA.out.below S51)
        replace HB := Lib.hid (HB.out.below S51)
        replace HD := Lib.hid (HD.out.below S51)
        clear hb51 S51
        go_wp2
        go_ret
        exact ⟨rfl, HK.out.below (by (repeat' (first | (with_reducible exact Below.refl _ _) | (with_reducible refine Below.setCell ?_ ?_ _) | (with_reducible refine Below.alloc ?_ ?_ _) | (with_reducible refine Below.drew ?_) | (with_reducible refine below_drewN ?_ _))) <;> (first | omega | (simp <;> omega)))⟩
      · obtain ⟨hd0, hd1⟩ := HMD.out (by omega)
        have q1 : decide (mm = 0) = false := decide_eq_false hm0
        have q1b : (mm == 0) = false := by rw [beq_eq_false_iff_ne]; exact hm0
        have gd0 : decide (0 < (gd.length : Int)) = true := decide_eq_true (by omega)
        have gd0n : decide (0 < gd.length) = true := decide_eq_true hd0
        have HL4 := Lib.hid (lE_ok HCK.out (show ¬ mm < 1 by omega))
        have HD1 := Lib.hid hd1; clear hd1
        go_wp2_with fail
        refine (sLeast_any A2 ss.length c2 ss mm _ (HS.out.below (by (repeat' (first | (with_reducible exact Below.refl _ _) | (with_reducible refine Below.setCell ?_ ?_ _) | (with_reducible refine Below.alloc ?_ ?_ _) | (with_reducible refine Below.drew ?_) | (with_reducible refine below_drewN ?_ _))) <;> (first | omega | (simp <;> omega))))).mono ?_
        rintro e w51 ⟨A9, c9, gy, rfl, hpp, hxy, hb51⟩
        have S51 : Below wr.heap.size wr w51 := kept_call hb51 (by (repeat' (first | (with_reducible exact Below.refl _ _) | (with_reducible refine Below.setCell ?_ ?_ _) | (with_reducible refine Below.alloc ?_ ?_ _) | (with_reducible refine Below.drew ?_) | (with_reducible refine below_drewN ?_ _))) <;> (first | omega | (simp <;> omega)))
        have Z51 := S51.size
        have HY := Lib.hid (hpp)
        replace HK := Lib.hid (HK.out.below S51)
        replace HS := Lib.hid (HS.out.below S51)
        replace HA := Lib.hid (HA.out.below S51)
        replace HB := Lib.hid (HB.out.below S51)
        replace HD := Lib.hid (HD.out.below S51)
        clear hb51 S51
        clear hpp
        rw [HL4.out]
        obtain rfl := LX_uniq hxy HD1.out
        clear hxy HD1
        go_wp2_with fail
        refine (known34_any _).mono ?_
        rintro e w52 ⟨rfl, hb52⟩
        have S52 : Below w51.heap.size w51 w52 := kept_call hb52 (by (repeat' (first | (with_reducible exact Below.refl _ _) | (with_reducible refine Below.setCell ?_ ?_ _) | (with_reducible refine Below.alloc ?_ ?_ _) | (with_reducible refine Below.drew ?_) | (with_reducible refine below_drewN ?_ _))) <;> (first | omega | (simp <;> omega)))
        have Z52 := S52.size
        replace HK := Lib.hid (HK.out.below S52)
        replace HS := Lib.hid (HS.out.below S52)
        replace HA := Lib.hid (HA.out.below S52)
        replace HB := Lib.hid (HB.out.below S52)
        replace HD := Lib.hid (HD.out.below S52)
        replace HY := Lib.hid (HY.out.below S52)
        clear hb52 S52
        go_wp2_with fail
        refine (same_yes (HY.out.below (by (repeat' (first | (with_reducible exact Below.refl _ _) | (with_reducible refine Below.setCell ?_ ?_ _) | (with_reducible refine Below.alloc ?_ ?_ _) | (with_reducible refine Below.drew ?_) | (with_reducible refine below_drewN ?_ _))) <;> (first | omega | (simp <;> omega)))) (HD.out.below (by (repeat' (first | (with_reducible exact Below.refl _ _) | (with_reducible refine Below.setCell ?_ ?_ _) | (with_reducible refine Below.alloc ?_ ?_ _) | (with_reducible refine Below.drew ?_) | (with_reducible refine below_drewN ?_ _))) <;> (first | omega | (simp <;> omega))))).mono ?_
        rintro e w53 ⟨rfl, hb53⟩
        have S53 : Below w52.heap.size w52 w53 := kept_call hb53 (by (repeat' (first | (with_reducible exact Below.refl _ _) | (with_reducible refine Below.setCell ?_ ?_ _) | (with_reducible refine Below.alloc ?_ ?_ _) | (with_reducible refine Below.drew ?_) | (with_reducible refine below_drewN ?_ _))) <;> (first | omega | (simp <;> omega)))
        have Z53 := S53.size
        replace HK := Lib.hid (HK.out.below S53)
        replace HS := Lib.hid (HS.out.below S53)
        replace HA := Lib.hid (HA.out.below S53)
        replace HB := Lib.hid (HB.out.below S53)
        replace HD := Lib.hid (HD.out.below S53)
        replace HY := Lib.hid (HY.out.below S53)
        clear hb53 S53
        go_wp2
        go_ret
        exact ⟨rfl, HK.out.below (by (repeat' (first | (with_reducible exact Below.refl _ _) | (with_reducible refine Below.setCell ?_ ?_ _) | (with_reducible refine Below.alloc ?_ ?_ _) | (with_reducible refine Below.drew ?_) | (with_reducible refine below_drewN ?_ _))) <;> (first | omega | (simp <;> omega)))⟩
theorem nests_row (A : Option Addr) (len cap : Nat) (zs : List Int) {w : World} (k : IntsAt w A len zs) (n : Int) (n0 : 0 ≤ n) (n1 : n < 256) (W : World) (hw : W = w) :
    Walked 6 #[.slice A len cap, .int .u8 n] W := by
  subst hw; exact nests_walk A len cap zs n n0 n1 W k
end Go.Proofs.Ytlfkkfdolnkjfaa
