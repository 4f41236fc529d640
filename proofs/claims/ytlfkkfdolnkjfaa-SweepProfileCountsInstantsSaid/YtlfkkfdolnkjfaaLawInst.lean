/- The walk of SweepProfileCountsInstants. -/
import Derived.Test.YtlfkkfdolnkjfaaCalmF
import Derived.Test.YtlfkkfdolnkjfaaCalmP
import Derived.Test.YtlfkkfdolnkjfaaCalmR
import Derived.Test.YtlfkkfdolnkjfaaJ15
import Derived.Test.YtlfkkfdolnkjfaaLaw34
import Derived.Test.YtlfkkfdolnkjfaaLaw34Q
import Derived.Test.YtlfkkfdolnkjfaaLaw34S
import Derived.Test.YtlfkkfdolnkjfaaSpans
namespace Go.Proofs.Ytlfkkfdolnkjfaa
open Go.RowKit Go.Shelf Go.Sort
set_option linter.unusedSimpArgs false
set_option linter.unusedVariables false

/-- A value that is known where a test has come out true, and is none where not. -/
def Gd (b : Bool) (c : Value) : List Value → Value → World → Prop := fun _ v _ => (b = true → v = c) ∧ (b = false → v = undef)
theorem keep_gd {R : World → World → Prop} {b : Bool} {c : Value} : ∀ d v w w', R w w' → Gd b c d v w → Gd b c d v w' := fun _ _ _ _ _ h => h
def InRel (w : World) (i : Value) (G : Nat) (wr : World) : Prop := ∃ q : Nat, q ≤ 71 ∧ G = 71 - q ∧ i = .int .i64 (-25 + (q : Int)) ∧ Below w.heap.size w wr
def NaRel (w : World) (ps : List Pc) (t : Int) (n i : Value) (G : Nat) (wr : World) : Prop := ∃ p : Nat, p ≤ ps.length ∧ G = ps.length - p ∧ i = .int .i64 p ∧ n = .int .i64 (nAt t (ps.take p)) ∧ Below w.heap.size w wr
def AsRel (w : World) (ps : List Pc) (i : Value) (G : Nat) (wr : World) : Prop := ∃ p : Nat, p ≤ ps.length ∧ G = ps.length - p ∧ i = .int .i64 p ∧ Below w.heap.size w wr
set_option maxRecDepth 100000 in
set_option maxHeartbeats 40000000 in
theorem inst_walk (LA : Option Addr) (llen lcap : Nat) (ls : List Int) (w : World) (k : IntsAt w LA llen ls) :
    Calls Try.prog 7 #[.slice LA llen lcap] w (RB w (.bool true)) := by
  have HK := Lib.hid (show Kp w w from Below.refl _ _)
  have HLI := Lib.hid k; clear k
  go_enter Try.func7, Try.ntmps7
  go_wp2_with fail
  refine (new_any LA llen lcap ls _ HLI.out).mono ?_
  rintro e w1 ⟨rfl, ht1, hb1⟩
  have Z1 := hb1.size
  have T1 := ht1.lt
  replace HK := Lib.hid (HK.out.below hb1)
  clear hb1
  have HT := Lib.hid ht1; clear ht1
  go_wp2_with fail
  refine (tspans_any _ 12 20 _ HT.out (by omega) (by omega) (by omega) (by omega)).mono ?_
  rintro e w2 ⟨A2, c2, ss, rfl, sl, sN, srow, ssm, -, hg2⟩
  have Z2 : w1.heap.size ≤ w2.heap.size := hg2.size
  have HK2 := Lib.hid (show Kp w w2 from below_grown HK.out.b hg2 (Nat.le_refl _) Z1)
  clear HK; have HK := HK2; clear HK2 HT hg2
  have ZW2 := HK.out.b.size
  have hss := spans_of_row srow (by omega)
  have HS := Lib.hid hss; have HSM := Lib.hid ssm; have HSN := Lib.hid sN; clear hss srow ssm sN
  go_wp2_with fail
  refine (sprofile_any A2 ss.length c2 ss _ (HS.out.below (by (repeat' (first | (with_reducible exact Below.refl _ _) | (with_reducible refine Below.setCell ?_ ?_ _) | (with_reducible refine Below.alloc ?_ ?_ _) | (with_reducible refine Below.drew ?_) | (with_reducible refine below_drewN ?_ _))) <;> (first | omega | (simp <;> omega))))).mono ?_
  rintro e w1 ⟨A3, c3, ps, rfl, hpp, hpx, hb1⟩
  have S1 : Below w2.heap.size w2 w1 := kept_call hb1 (by (repeat' (first | (with_reducible exact Below.refl _ _) | (with_reducible refine Below.setCell ?_ ?_ _) | (with_reducible refine Below.alloc ?_ ?_ _) | (with_reducible refine Below.drew ?_) | (with_reducible refine below_drewN ?_ _))) <;> (first | omega | (simp <;> omega)))
  have Z1 := S1.size
  have HP := Lib.hid (hpp)
  replace HK := Lib.hid (HK.out.below S1)
  replace HS := Lib.hid (HS.out.below S1)
  clear hb1 S1
  clear hpp
  have hck := small_ck HSM.out (by omega) (by omega)
  rw [hck]
  obtain ⟨hcan, hcnt, hpl, hpv⟩ := px_parts hpx hck
  have hnl := fun t => nAt_law hpx hck t
  have HCK := Lib.hid hck; have HCAN := Lib.hid hcan; have HPV := Lib.hid hpv; have HNL := Lib.hid hnl; clear hck hcan hcnt hpv hnl hpx HSM HSN
  go_wp2
  obtain ⟨w4, e4⟩ : ∃ w4, w4 = w1 := ⟨_, rfl⟩
  rw [← e4] at HK HS HP Z1 ⊢
  clear e4
  go_loopg [6] 71 (fun G i wr => InRel w4 i G wr)
  case atStart => exact ⟨0, by omega, by omega, rfl, Below.refl _ _⟩
  case round =>
    obtain ⟨q, hq, rfl, rfl, KR⟩ := hrel
    have ZR := KR.size
    replace HK := Lib.hid (HK.out.below KR)
    replace HS := Lib.hid (HS.out.below KR)
    replace HP := Lib.hid (HP.out.below KR)
    have HR := Lib.hid (show Kp w4 wr from KR)
    clear KR
    by_cases hlt : q < 71
    · have gq : decide (-25 + (q : Int) ≤ 45) = true := decide_eq_true (by omega)
      obtain ⟨u, hu⟩ : ∃ u : Int, -25 + (q : Int) = u := ⟨_, rfl⟩
      have u0 : -25 ≤ u := by omega
      have u1 : u ≤ 45 := by omega
      have wu : IntKind.i64.wrap (u + 1) = u + 1 := IntWalk.i64_in _ (by omega)
      rw [hu] at gq ⊢
      have hu2 : -25 + ((q + 1 : Nat) : Int) = u + 1 := by omega
      have HU := Lib.hid hu2; clear hu hu2
      go_wp2
      obtain ⟨w5, e5⟩ : ∃ w5, w5 = wr := ⟨_, rfl⟩
      rw [← e5] at HK HS HP HR ZR ⊢
      clear e5
      go_loopg [7, 8] ps.length (fun G n i wr => NaRel w5 ps u n i G wr)
      case atStart => exact ⟨0, by omega, by omega, rfl, by simp [nAt], Below.refl _ _⟩
      case round =>
        obtain ⟨p, hp, rfl, rfl, rfl, KP⟩ := hrel
        have ZP := KP.size
        replace HK := Lib.hid (HK.out.below KP)
        replace HS := Lib.hid (HS.out.below KP)
        replace HP := Lib.hid (HP.out.below KP)
        replace HR := Lib.hid (HR.out.below KP)
        have HRP := Lib.hid (show Kp w5 wr from KP)
        clear KP
        by_cases hlp : p < ps.length
        · have gp : decide ((p : Int) < (ps.length : Int)) = true := decide_eq_true (by omega)
          have gpn : decide (p < ps.length) = true := decide_eq_true hlp
          have wp : IntKind.i64.wrap ((p : Int) + 1) = ((p + 1 : Nat) : Int) := by rw [IntWalk.i64_in _ (by omega)]; omega
          obtain ⟨bl, off, rfl, hbl, hcs⟩ := HP.out.2.2 (by omega)
          obtain ⟨e0, e1, e2⟩ := hcs p hlp
          clear hcs
          obtain ⟨nv, hnv⟩ : ∃ nv, nAt u (ps.take p) = nv := ⟨_, rfl⟩
          have hst : nAt u (ps.take (p + 1)) = if hdB (ps.getD p ⟨0, 0, 0⟩).lo (ps.getD p ⟨0, 0, 0⟩).hi u = true then (ps.getD p ⟨0, 0, 0⟩).n else nv := by rw [take_next ps p hlp, nAt_snoc, hnv]
          generalize ps.getD p ⟨0, 0, 0⟩ = x at e0 e1 e2 hst
          rw [hnv]
          clear hnv
          obtain ⟨lo, hi, cn⟩ := x
          dsimp only at e0 e1 e2 hst
          have HST := Lib.hid hst; clear hst
          obtain ⟨hd, hhd⟩ : ∃ hd, hdB lo hi u = hd := ⟨_, rfl⟩
          have RH := Lib.hid (fun W => hhd ▸ rholds_all lo hi u W)
          have HHD := Lib.hid hhd; clear hhd
          cases hd with
          | true =>
            go_wp2_with fail
            refine (RH.out _).mono ?_
            rintro e w2 ⟨rfl, hb2⟩
            have S2 : Below wr.heap.size wr w2 := kept_call hb2 (by (repeat' (first | (with_reducible exact Below.refl _ _) | (with_reducible refine Below.setCell ?_ ?_ _) | (with_reducible refine Below.alloc ?_ ?_ _) | (with_reducible refine Below.drew ?_) | (with_reducible refine below_drewN ?_ _))) <;> (first | omega | (simp <;> omega)))
            have Z2 := S2.size
            replace HK := Lib.hid (HK.out.below S2)
            replace HS := Lib.hid (HS.out.below S2)
            replace HP := Lib.hid (HP.out.below S2)
            replace HR := Lib.hid (HR.out.below S2)
            replace HRP := Lib.hid (HRP.out.below S2)
            clear hb2
            have e2 := (S2.cell (p := ⟨bl, off + p * 3 + 2, none⟩) hbl).trans e2
            clear S2
            have hbl := Nat.lt_of_lt_of_le hbl Z2
            go_wp2
            go_roundg (ps.length - (p + 1))
            case measure => omega
            case rel => exact ⟨p + 1, by omega, by omega, by go_num, by rw [HST.out, HHD.out]; rfl, HRP.out.below (by (repeat' (first | (with_reducible exact Below.refl _ _) | (with_reducible refine Below.setCell ?_ ?_ _) | (with_reducible refine Below.alloc ?_ ?_ _) | (with_reducible refine Below.drew ?_) | (with_reducible refine below_drewN ?_ _))) <;> (first | omega | (simp <;> omega)))⟩
          | false =>
            go_wp2_with fail
            refine (RH.out _).mono ?_
            rintro e w2 ⟨rfl, hb2⟩
            have S2 : Below wr.heap.size wr w2 := kept_call hb2 (by (repeat' (first | (with_reducible exact Below.refl _ _) | (with_reducible refine Below.setCell ?_ ?_ _) | (with_reducible refine Below.alloc ?_ ?_ _) | (with_reducible refine Below.drew ?_) | (with_reducible refine below_drewN ?_ _))) <;> (first | omega | (simp <;> omega)))
            have Z2 := S2.size
            replace HK := Lib.hid (HK.out.below S2)
            replace HS := Lib.hid (HS.out.below S2)
            replace HP := Lib.hid (HP.out.below S2)
            replace HR := Lib.hid (HR.out.below S2)
            replace HRP := Lib.hid (HRP.out.below S2)
            clear hb2
            clear S2
            go_wp2
            go_roundg (ps.length - (p + 1))
            case measure => omega
            case rel => exact ⟨p + 1, by omega, by omega, by go_num, by rw [HST.out, HHD.out]; simp, HRP.out.below (by (repeat' (first | (with_reducible exact Below.refl _ _) | (with_reducible refine Below.setCell ?_ ?_ _) | (with_reducible refine Below.alloc ?_ ?_ _) | (with_reducible refine Below.drew ?_) | (with_reducible refine below_drewN ?_ _))) <;> (first | omega | (simp <;> omega)))⟩
        · obtain rfl : p = ps.length := by omega
          have gp : decide ((ps.length : Int) < (ps.length : Int)) = false := decide_eq_false (by omega)
          have hcv : ctV ss u = nAt u (ps.take ps.length) := by unfold ctV; rw [if_pos HCK.out, List.take_length, HNL.out]
          generalize nAt u (ps.take ps.length) = nv at *
          have HCV := Lib.hid hcv; clear hcv
          clear HRP
          go_wp2_with fail
          refine (scount_any A2 ss.length c2 ss u _ (HS.out.below (by (repeat' (first | (with_reducible exact Below.refl _ _) | (with_reducible refine Below.setCell ?_ ?_ _) | (with_reducible refine Below.alloc ?_ ?_ _) | (with_reducible refine Below.drew ?_) | (with_reducible refine below_drewN ?_ _))) <;> (first | omega | (simp <;> omega))))).mono ?_
          rintro e w21 ⟨rfl, hb21⟩
          have S21 : Below wr.heap.size wr w21 := kept_call hb21 (by (repeat' (first | (with_reducible exact Below.refl _ _) | (with_reducible refine Below.setCell ?_ ?_ _) | (with_reducible refine Below.alloc ?_ ?_ _) | (with_reducible refine Below.drew ?_) | (with_reducible refine below_drewN ?_ _))) <;> (first | omega | (simp <;> omega)))
          have Z21 := S21.size
          replace HK := Lib.hid (HK.out.below S21)
          replace HS := Lib.hid (HS.out.below S21)
          replace HP := Lib.hid (HP.out.below S21)
          replace HR := Lib.hid (HR.out.below S21)
          clear hb21 S21
          rw [HCV.out, HCK.out]
          go_wp2
          go_roundg (71 - (q + 1))
          case measure => omega
          case rel => exact ⟨q + 1, by omega, by omega, by rw [HU.out], HR.out.below (by (repeat' (first | (with_reducible exact Below.refl _ _) | (with_reducible refine Below.setCell ?_ ?_ _) | (with_reducible refine Below.alloc ?_ ?_ _) | (with_reducible refine Below.drew ?_) | (with_reducible refine below_drewN ?_ _))) <;> (first | omega | (simp <;> omega)))⟩
    · obtain rfl : q = 71 := by omega
      have gq : decide (-25 + ((71 : Nat) : Int) ≤ 45) = false := by decide
      have gq2 : decide (-25 + (71 : Int) ≤ 45) = false := by decide
      clear HR
      go_wp2
      obtain ⟨w6, e6⟩ : ∃ w6, w6 = wr := ⟨_, rfl⟩
      rw [← e6] at HK HS HP ZR ⊢
      clear e6
      go_loopg [11] ps.length (fun G i wr => AsRel w6 ps i G wr)
      case atStart => exact ⟨0, by omega, by omega, rfl, Below.refl _ _⟩
      case round =>
        obtain ⟨p, hp, rfl, rfl, KP⟩ := hrel
        have ZP := KP.size
        replace HK := Lib.hid (HK.out.below KP)
        replace HS := Lib.hid (HS.out.below KP)
        replace HP := Lib.hid (HP.out.below KP)
        have HRP := Lib.hid (show Kp w6 wr from KP)
        clear KP
        by_cases hlp : p < ps.length
        · have gp : decide ((p : Int) < (ps.length : Int)) = true := decide_eq_true (by omega)
          have gpn : decide (p < ps.length) = true := decide_eq_true hlp
          have wp : IntKind.i64.wrap ((p : Int) + 1) = ((p + 1 : Nat) : Int) := by rw [IntWalk.i64_in _ (by omega)]; omega
          obtain ⟨bl, off, rfl, hbl, hcs⟩ := HP.out.2.2 (by omega)
          obtain ⟨e0, e1, e2⟩ := hcs p hlp
          have hpm : ps.getD p ⟨0, 0, 0⟩ ∈ ps := by rw [List.getD_eq_getElem?_getD, List.getElem?_eq_getElem hlp]; exact List.getElem_mem _
          have hv := HPV.out _ hpm
          have hn := (HCAN.out.1 _ hpm).2
          have hv3 := vS_true.1 hv
          obtain ⟨q0, hq0⟩ : ∃ c, decide (0 < p) = c := ⟨_, rfl⟩
          have hq0i : decide ((0 : Int) < (p : Int)) = q0 := by rw [← hq0]; exact decide_eq_decide.2 (by omega)
          obtain ⟨r, hr⟩ : ∃ r, p - 1 = r := ⟨_, rfl⟩
          have hpr : q0 = true → p = r + 1 := fun hb => by rw [← hq0] at hb; have := of_decide_eq_true hb; omega
          have hgr : q0 = true → _ := fun hb => HCAN.out.2 r (by have := hpr hb; omega)
          have hgr2 : q0 = true → (ps.getD r ⟨0, 0, 0⟩).hi < (ps.getD p ⟨0, 0, 0⟩).lo ∧ ((ps.getD r ⟨0, 0, 0⟩).hi + 1 = (ps.getD p ⟨0, 0, 0⟩).lo → (ps.getD r ⟨0, 0, 0⟩).n ≠ (ps.getD p ⟨0, 0, 0⟩).n) := fun hb => by have h9 := hgr hb; rw [← hpr hb] at h9; exact h9
          have hvr : q0 = true → _ := fun hb => vS_true.1 (HPV.out (ps.getD r ⟨0, 0, 0⟩) (by have h9 := hpr hb; rw [List.getD_eq_getElem?_getD, List.getElem?_eq_getElem (show r < ps.length by omega)]; exact List.getElem_mem _))
          have hdr : q0 = true → _ := fun hb => hcs r (by have := hpr hb; omega)
          clear hcs hgr
          generalize ps.getD p ⟨0, 0, 0⟩ = x at e0 e1 e2 hv hn hv3 hgr2
          generalize ps.getD r ⟨0, 0, 0⟩ = y at hdr hvr hgr2
          obtain ⟨lo, hi, cn⟩ := x
          obtain ⟨lo', hi', cn'⟩ := y
          dsimp only at e0 e1 e2 hv hn hv3 hdr hvr hgr2
          have RV := Lib.hid (fun W => hv ▸ (show Calls _ _ _ _ (RB W _) from (rsvalid_any lo hi W).mono (fun _ _ hh => ⟨hh.1, hh.2 ▸ (Below.refl _ _).alloc (Nat.le_refl _) _⟩)))
          have gn : decide (cn < 1) = false := decide_eq_false (by omega)
          obtain ⟨ad, had⟩ : ∃ c, (q0 && decide (hi' + 1 = lo)) = c := ⟨_, rfl⟩
          have HQ := Lib.hid (show q0 = true → decide (lo ≤ hi') = false ∧ IntKind.i64.wrap (hi' + 1) = hi' + 1 ∧ IntKind.i64.wrap ((p : Int) - 1) = (r : Int) ∧ decide ((r : Int) < (ps.length : Int)) = true ∧ decide (r < ps.length) = true ∧ r < ps.length ∧ decide (hi' + 1 = lo) = ad ∧ ((hi' + 1) == lo) = ad from fun hb => by
            have h9 := hgr2 hb; have h8 := hpr hb; have h7 := hvr hb
            exact ⟨decide_eq_false (by omega), IntWalk.i64_in _ (by omega), by rw [IntWalk.i64_in _ (by omega)]; omega, decide_eq_true (by omega), decide_eq_true (by omega), by omega, by rw [← had, hb]; rfl, by rw [← had, hb]; rfl⟩)
          have HAD := Lib.hid (show ad = true → q0 = true ∧ decide (cn' = cn) = false ∧ (cn' == cn) = false from fun hb => by
            rw [← had, Bool.and_eq_true, decide_eq_true_eq] at hb
            have h9 := (hgr2 hb.1).2 hb.2
            exact ⟨hb.1, decide_eq_false h9, by rw [beq_eq_false_iff_ne]; exact h9⟩)
          have E := Lib.hid (fun (W : World) (hW : Below wr.heap.size wr W) => And.intro (hbl) (And.intro ((hW.cell (p := ⟨bl, off + p * 3, none⟩) hbl).trans e0) (And.intro ((hW.cell (p := ⟨bl, off + p * 3 + 1, none⟩) hbl).trans e1) ((hW.cell (p := ⟨bl, off + p * 3 + 2, none⟩) hbl).trans e2))))
          have ER := Lib.hid (fun (hb : q0 = true) (W : World) (hW : Below wr.heap.size wr W) => And.intro ((hW.cell (p := ⟨bl, off + r * 3, none⟩) hbl).trans (hdr hb).1) (And.intro ((hW.cell (p := ⟨bl, off + r * 3 + 1, none⟩) hbl).trans (hdr hb).2.1) ((hW.cell (p := ⟨bl, off + r * 3 + 2, none⟩) hbl).trans (hdr hb).2.2)))
          have HRR := Lib.hid hr
          clear hv hn hv3 hdr hvr hgr2 hpr hr had e0 e1 e2
          go_wp2_with fail
          focus
            (try dsimp only [List.append])
            refine' wp_region_calm (by kernel_rfl) (fun _ _ w' => Below wr.heap.size wr w' ∧ True) (fun _ _ => True) ((Is _) :: (Is _) :: (Is _) :: (Is _) :: (Is _) :: (Is _) :: (Is _) :: (Is _) :: (Is _) :: (Is _) :: (Is _) :: (Is _) :: (Is _) :: (Is _) :: (Is _) :: (Is _) :: (Is _) :: (Is _) :: (Is _) :: (Gd q0 _) :: (Gd q0 _) :: (Gd q0 _) :: (Gd q0 _) :: (Gd q0 _) :: (Gd q0 _) :: (Gd q0 _) :: (Gd q0 _) :: (Gd q0 _) :: (Gd q0 _) :: (Gd q0 _) :: (Gd q0 _) :: (Gd q0 _) :: (Gd q0 _) :: (Gd q0 _) :: (Gd q0 _) :: (Gd q0 _) :: (Gd q0 _) :: (Gd q0 _) :: (Gd q0 _) :: (Gd q0 _) :: (Gd q0 _) :: (Gd q0 _) :: (Gd q0 _) :: (Gd q0 _) :: (Gd q0 _) :: (Gd q0 _) :: (Gd q0 _) :: (Gd q0 _) :: (Gd q0 _) :: (Gd q0 _) :: (Gd ad _) :: (Gd ad _) :: (Gd ad _) :: (Gd ad _) :: (Gd ad _) :: (Gd ad _) :: (Gd ad _) :: (Gd ad _) :: (Gd ad _) :: (Gd ad _) :: (Gd ad _) :: (Gd ad _) :: (Gd q0 _) :: (Gd q0 _) :: (Is _) :: (Is _) :: []) ([] :: [] :: [0, 1] :: [2] :: [3] :: [4] :: [5] :: [6] :: [7] :: [7] :: [8, 9, 7] :: [10, 7] :: [11, 7] :: [12, 7] :: [7, 13] :: [14] :: [15] :: [16, 15] :: [17, 15] :: [18] :: [18] :: [20, 18] :: [19, 21, 18] :: [22, 18] :: [23, 18] :: [24, 18] :: [18] :: [18] :: [26, 27, 18] :: [28, 18] :: [29, 18] :: [30, 18] :: [25, 31, 18] :: [32, 18] :: [33] :: [33] :: [35, 33] :: [34, 36, 33] :: [37, 33] :: [38, 33] :: [39, 33] :: [40, 33] :: [33] :: [33] :: [42, 43, 33] :: [44, 33] :: [45, 33] :: [46, 33] :: [41, 47, 33] :: [48, 33] :: [49] :: [49] :: [51, 49] :: [50, 52, 49] :: [53, 49] :: [54, 49] :: [49] :: [49] :: [56, 57, 49] :: [58, 49] :: [59, 49] :: [55, 60, 49] :: [49, 61, 33] :: [33, 62, 18] :: [18, 63, 15] :: [15, 64] :: []) [] [] rfl (calmB_of (by kernel_rfl)) (fun u => (calmPut_row _ 63 _ _ (by kernel_rfl) (Nat.le_of_ble_eq_true (by kernel_rfl)) u 0).trans (by simp only [List.take_succ_cons, List.take_zero, List.drop_succ_cons, List.drop_zero, List.length_cons, List.length_nil, List.range'_succ, List.range'_zero, List.map_cons, List.map_nil, List.cons_append, List.nil_append, Nat.zero_add, Nat.reduceAdd]; rfl)) ?_ (calmKeep_cons keep_is' (calmKeep_cons keep_is' (calmKeep_cons keep_is' (calmKeep_cons keep_is' (calmKeep_cons keep_is' (calmKeep_cons keep_is' (calmKeep_cons keep_is' (calmKeep_cons keep_is' (calmKeep_cons keep_is' (calmKeep_cons keep_is' (calmKeep_cons keep_is' (calmKeep_cons keep_is' (calmKeep_cons keep_is' (calmKeep_cons keep_is' (calmKeep_cons keep_is' (calmKeep_cons keep_is' (calmKeep_cons keep_is' (calmKeep_cons keep_is' (calmKeep_cons keep_is' (calmKeep_cons keep_gd (calmKeep_cons keep_gd (calmKeep_cons keep_gd (calmKeep_cons keep_gd (calmKeep_cons keep_gd (calmKeep_cons keep_gd (calmKeep_cons keep_gd (calmKeep_cons keep_gd (calmKeep_cons keep_gd (calmKeep_cons keep_gd (calmKeep_cons keep_gd (calmKeep_cons keep_gd (calmKeep_cons keep_gd (calmKeep_cons keep_gd (calmKeep_cons keep_gd (calmKeep_cons keep_gd (calmKeep_cons keep_gd (calmKeep_cons keep_gd (calmKeep_cons keep_gd (calmKeep_cons keep_gd (calmKeep_cons keep_gd (calmKeep_cons keep_gd (calmKeep_cons keep_gd (calmKeep_cons keep_gd (calmKeep_cons keep_gd (calmKeep_cons keep_gd (calmKeep_cons keep_gd (calmKeep_cons keep_gd (calmKeep_cons keep_gd (calmKeep_cons keep_gd (calmKeep_cons keep_gd (calmKeep_cons keep_gd (calmKeep_cons keep_gd (calmKeep_cons keep_gd (calmKeep_cons keep_gd (calmKeep_cons keep_gd (calmKeep_cons keep_gd (calmKeep_cons keep_gd (calmKeep_cons keep_gd (calmKeep_cons keep_gd (calmKeep_cons keep_gd (calmKeep_cons keep_gd (calmKeep_cons keep_gd (calmKeep_cons keep_gd (calmKeep_cons keep_gd (calmKeep_cons keep_is' (calmKeep_cons keep_is' (calmKeep_nil))))))))))))))))))))))))))))))))))))))))))))))))))))))))))))))))))) ?_ ?_
            · intro _
              exact ⟨(Below.refl _ _).drew, trivial⟩
            rotate_left 66
            · skip
              refine calmSteps_cons (fun u wq n9 hn hn2 hC hk K hK => ?_) ?_
              · obtain ⟨hP, hTr⟩ := hC
                clear hn hn2
                clear hk
                go_simp
                exact hK _ _ _ rfl ⟨hP, hTr⟩ trivial rfl
              refine calmSteps_cons (fun u wq n9 hn hn2 hC hk K hK => ?_) ?_
              · obtain ⟨hP, hTr⟩ := hC
                clear hn hn2
                clear hk
                go_simp
                exact hK _ _ _ rfl ⟨hP, hTr⟩ trivial rfl
              refine calmSteps_cons (fun u wq n9 hn hn2 hC hk K hK => ?_) ?_
              · obtain ⟨hP, hTr⟩ := hC
                clear hn hn2
                simp only [calmKnown, List.getElem?_cons_zero, List.getElem?_cons_succ, and_true, Is, Gd, Pure, Option.some.injEq, List.getD_cons_zero, List.getD_cons_succ, List.map_cons, List.map_nil] at hk
                obtain ⟨h0, h1⟩ := hk
                simp only [h0, h1] at hK ⊢
                have H0 := Lib.hid h0; clear h0; have H1 := Lib.hid h1; clear h1
                go_simp
                exact hK _ _ _ rfl ⟨hP, hTr⟩ trivial rfl
              refine calmSteps_cons (fun u wq n9 hn hn2 hC hk K hK => ?_) ?_
              · obtain ⟨hP, hTr⟩ := hC
                clear hn hn2
                simp only [calmKnown, List.getElem?_cons_zero, List.getElem?_cons_succ, and_true, Is, Gd, Pure, Option.some.injEq, List.getD_cons_zero, List.getD_cons_succ, List.map_cons, List.map_nil] at hk
                have h2 := hk; clear hk
                simp only [h2] at hK ⊢
                have H2 := Lib.hid h2; clear h2
                go_simp
                exact hK _ _ _ rfl ⟨hP, hTr⟩ trivial rfl
              refine calmSteps_cons (fun u wq n9 hn hn2 hC hk K hK => ?_) ?_
              · obtain ⟨hP, hTr⟩ := hC
                clear hn hn2
                simp only [calmKnown, List.getElem?_cons_zero, List.getElem?_cons_succ, and_true, Is, Gd, Pure, Option.some.injEq, List.getD_cons_zero, List.getD_cons_succ, List.map_cons, List.map_nil] at hk
                have h3 := hk; clear hk
                simp only [h3] at hK ⊢
                have H3 := Lib.hid h3; clear h3
                obtain ⟨hbl9, y0, y1, y2⟩ := E.out _ hP
                go_simp
                exact hK _ _ _ rfl ⟨hP, hTr⟩ trivial rfl
              refine calmSteps_cons (fun u wq n9 hn hn2 hC hk K hK => ?_) ?_
              · obtain ⟨hP, hTr⟩ := hC
                clear hn hn2
                simp only [calmKnown, List.getElem?_cons_zero, List.getElem?_cons_succ, and_true, Is, Gd, Pure, Option.some.injEq, List.getD_cons_zero, List.getD_cons_succ, List.map_cons, List.map_nil] at hk
                have h4 := hk; clear hk
                simp only [h4] at hK ⊢
                have H4 := Lib.hid h4; clear h4
                first
                  | (refine' calm_op ?_ ?_; rfl; go_simp; (first | (with_reducible refine (RV.out _).mono ?_)); rintro e w2 ⟨rfl, hbl⟩; exact hK _ _ _ rfl ⟨kept_call hbl hP, trivial⟩ trivial rfl)
                  | (go_simp; exact hK _ _ _ rfl ⟨hP, hTr⟩ trivial rfl)
              refine calmSteps_cons (fun u wq n9 hn hn2 hC hk K hK => ?_) ?_
              · obtain ⟨hP, hTr⟩ := hC
                clear hn hn2
                simp only [calmKnown, List.getElem?_cons_zero, List.getElem?_cons_succ, and_true, Is, Gd, Pure, Option.some.injEq, List.getD_cons_zero, List.getD_cons_succ, List.map_cons, List.map_nil] at hk
                have h5 := hk; clear hk
                simp only [h5] at hK ⊢
                have H5 := Lib.hid h5; clear h5
                go_simp
                exact hK _ _ _ rfl ⟨hP, hTr⟩ trivial rfl
              refine calmSteps_cons (fun u wq n9 hn hn2 hC hk K hK => ?_) ?_
              · obtain ⟨hP, hTr⟩ := hC
                clear hn hn2
                simp only [calmKnown, List.getElem?_cons_zero, List.getElem?_cons_succ, and_true, Is, Gd, Pure, Option.some.injEq, List.getD_cons_zero, List.getD_cons_succ, List.map_cons, List.map_nil] at hk
                have h6 := hk; clear hk
                simp only [h6] at hK ⊢
                have H6 := Lib.hid h6; clear h6
                go_simp
                exact hK _ _ _ rfl ⟨hP, hTr⟩ trivial rfl
              refine calmSteps_cons (fun u wq n9 hn hn2 hC hk K hK => ?_) ?_
              · obtain ⟨hP, hTr⟩ := hC
                clear hn hn2
                simp only [calmKnown, List.getElem?_cons_zero, List.getElem?_cons_succ, and_true, Is, Gd, Pure, Option.some.injEq, List.getD_cons_zero, List.getD_cons_succ, List.map_cons, List.map_nil] at hk
                have h7 := hk; clear hk
                simp only [h7] at hK ⊢
                have H7 := Lib.hid h7; clear h7
                go_simp
                exact hK _ _ _ rfl ⟨hP, hTr⟩ trivial rfl
              refine calmSteps_cons (fun u wq n9 hn hn2 hC hk K hK => ?_) ?_
              · obtain ⟨hP, hTr⟩ := hC
                clear hn hn2
                simp only [calmKnown, List.getElem?_cons_zero, List.getElem?_cons_succ, and_true, Is, Gd, Pure, Option.some.injEq, List.getD_cons_zero, List.getD_cons_succ, List.map_cons, List.map_nil] at hk
                have h7 := hk; clear hk
                simp only [h7] at hK ⊢
                have H7 := Lib.hid h7; clear h7
                go_simp
                exact hK _ _ _ rfl ⟨hP, hTr⟩ trivial rfl
              refine calmSteps_cons (fun u wq n9 hn hn2 hC hk K hK => ?_) ?_
              · obtain ⟨hP, hTr⟩ := hC
                clear hn hn2
                simp only [calmKnown, List.getElem?_cons_zero, List.getElem?_cons_succ, and_true, Is, Gd, Pure, Option.some.injEq, List.getD_cons_zero, List.getD_cons_succ, List.map_cons, List.map_nil] at hk
                obtain ⟨h8, h9, h7⟩ := hk
                simp only [h8, h9, h7] at hK ⊢
                have H8 := Lib.hid h8; clear h8; have H9 := Lib.hid h9; clear h9; have H7 := Lib.hid h7; clear h7
                go_simp
                exact hK _ _ _ rfl ⟨hP, hTr⟩ trivial rfl
              refine calmSteps_cons (fun u wq n9 hn hn2 hC hk K hK => ?_) ?_
              · obtain ⟨hP, hTr⟩ := hC
                clear hn hn2
                simp only [calmKnown, List.getElem?_cons_zero, List.getElem?_cons_succ, and_true, Is, Gd, Pure, Option.some.injEq, List.getD_cons_zero, List.getD_cons_succ, List.map_cons, List.map_nil] at hk
                obtain ⟨h10, h7⟩ := hk
                simp only [h10, h7] at hK ⊢
                have H10 := Lib.hid h10; clear h10; have H7 := Lib.hid h7; clear h7
                go_simp
                exact hK _ _ _ rfl ⟨hP, hTr⟩ trivial rfl
              refine calmSteps_cons (fun u wq n9 hn hn2 hC hk K hK => ?_) ?_
              · obtain ⟨hP, hTr⟩ := hC
                clear hn hn2
                simp only [calmKnown, List.getElem?_cons_zero, List.getElem?_cons_succ, and_true, Is, Gd, Pure, Option.some.injEq, List.getD_cons_zero, List.getD_cons_succ, List.map_cons, List.map_nil] at hk
                obtain ⟨h11, h7⟩ := hk
                simp only [h11, h7] at hK ⊢
                have H11 := Lib.hid h11; clear h11; have H7 := Lib.hid h7; clear h7
                obtain ⟨hbl9, y0, y1, y2⟩ := E.out _ hP
                go_simp
                exact hK _ _ _ rfl ⟨hP, hTr⟩ trivial rfl
              refine calmSteps_cons (fun u wq n9 hn hn2 hC hk K hK => ?_) ?_
              · obtain ⟨hP, hTr⟩ := hC
                clear hn hn2
                simp only [calmKnown, List.getElem?_cons_zero, List.getElem?_cons_succ, and_true, Is, Gd, Pure, Option.some.injEq, List.getD_cons_zero, List.getD_cons_succ, List.map_cons, List.map_nil] at hk
                obtain ⟨h12, h7⟩ := hk
                simp only [h12, h7] at hK ⊢
                have H12 := Lib.hid h12; clear h12; have H7 := Lib.hid h7; clear h7
                go_simp
                exact hK _ _ _ rfl ⟨hP, hTr⟩ trivial rfl
              refine calmSteps_cons (fun u wq n9 hn hn2 hC hk K hK => ?_) ?_
              · obtain ⟨hP, hTr⟩ := hC
                clear hn hn2
                simp only [calmKnown, List.getElem?_cons_zero, List.getElem?_cons_succ, and_true, Is, Gd, Pure, Option.some.injEq, List.getD_cons_zero, List.getD_cons_succ, List.map_cons, List.map_nil] at hk
                obtain ⟨h7, h13⟩ := hk
                simp only [h7, h13] at hK ⊢
                have H7 := Lib.hid h7; clear h7; have H13 := Lib.hid h13; clear h13
                go_simp
                exact hK _ _ _ rfl ⟨hP, hTr⟩ trivial rfl
              refine calmSteps_cons (fun u wq n9 hn hn2 hC hk K hK => ?_) ?_
              · obtain ⟨hP, hTr⟩ := hC
                clear hn hn2
                simp only [calmKnown, List.getElem?_cons_zero, List.getElem?_cons_succ, and_true, Is, Gd, Pure, Option.some.injEq, List.getD_cons_zero, List.getD_cons_succ, List.map_cons, List.map_nil] at hk
                have h14 := hk; clear hk
                simp only [h14] at hK ⊢
                have H14 := Lib.hid h14; clear h14
                go_simp
                exact hK _ _ _ rfl ⟨hP, hTr⟩ trivial rfl
              refine calmSteps_cons (fun u wq n9 hn hn2 hC hk K hK => ?_) ?_
              · obtain ⟨hP, hTr⟩ := hC
                clear hn hn2
                simp only [calmKnown, List.getElem?_cons_zero, List.getElem?_cons_succ, and_true, Is, Gd, Pure, Option.some.injEq, List.getD_cons_zero, List.getD_cons_succ, List.map_cons, List.map_nil] at hk
                have h15 := hk; clear hk
                simp only [h15] at hK ⊢
                have H15 := Lib.hid h15; clear h15
                go_simp
                exact hK _ _ _ rfl ⟨hP, hTr⟩ trivial rfl
              refine calmSteps_cons (fun u wq n9 hn hn2 hC hk K hK => ?_) ?_
              · obtain ⟨hP, hTr⟩ := hC
                clear hn hn2
                simp only [calmKnown, List.getElem?_cons_zero, List.getElem?_cons_succ, and_true, Is, Gd, Pure, Option.some.injEq, List.getD_cons_zero, List.getD_cons_succ, List.map_cons, List.map_nil] at hk
                obtain ⟨h16, h15⟩ := hk
                simp only [h16, h15] at hK ⊢
                have H16 := Lib.hid h16; clear h16; have H15 := Lib.hid h15; clear h15
                go_simp
                exact hK _ _ _ rfl ⟨hP, hTr⟩ trivial rfl
              refine calmSteps_cons (fun u wq n9 hn hn2 hC hk K hK => ?_) ?_
              · obtain ⟨hP, hTr⟩ := hC
                clear hn hn2
                simp only [calmKnown, List.getElem?_cons_zero, List.getElem?_cons_succ, and_true, Is, Gd, Pure, Option.some.injEq, List.getD_cons_zero, List.getD_cons_succ, List.map_cons, List.map_nil] at hk
                obtain ⟨h17, h15⟩ := hk
                simp only [h17, h15] at hK ⊢
                have H17 := Lib.hid h17; clear h17; have H15 := Lib.hid h15; clear h15
                go_simp
                exact hK _ _ _ rfl ⟨hP, hTr⟩ trivial rfl
              refine calmSteps_cons (fun u wq n9 hn hn2 hC hk K hK => ?_) ?_
              · obtain ⟨hP, hTr⟩ := hC
                clear hn hn2
                simp only [calmKnown, List.getElem?_cons_zero, List.getElem?_cons_succ, and_true, Is, Gd, Pure, Option.some.injEq, List.getD_cons_zero, List.getD_cons_succ, List.map_cons, List.map_nil] at hk
                have h18 := hk; clear hk
                simp only [h18] at hK ⊢
                have H18 := Lib.hid h18; clear h18
                by_cases hb : q0 = true
                · skip
                  obtain ⟨hbl9, y0, y1, y2⟩ := E.out _ hP
                  obtain ⟨gl, wh, wr1, gr, grn, grp, ga, gab⟩ := HQ.out hb
                  obtain ⟨z0, z1, z2⟩ := ER.out hb _ hP
                  simp only [hb] at hK ⊢
                  go_simp
                  exact hK _ _ _ rfl ⟨hP, hTr⟩ trivial ⟨fun _ => rfl, (fun h => by cases h)⟩
                · replace hb : q0 = false := by simpa using hb
                  simp only [hb] at hK ⊢
                  go_simp
                  exact hK _ undef _ rfl ⟨hP, hTr⟩ trivial ⟨(fun h => by cases h), fun _ => rfl⟩
              refine calmSteps_cons (fun u wq n9 hn hn2 hC hk K hK => ?_) ?_
              · obtain ⟨hP, hTr⟩ := hC
                clear hn hn2
                simp only [calmKnown, List.getElem?_cons_zero, List.getElem?_cons_succ, and_true, Is, Gd, Pure, Option.some.injEq, List.getD_cons_zero, List.getD_cons_succ, List.map_cons, List.map_nil] at hk
                have h18 := hk; clear hk
                simp only [h18] at hK ⊢
                have H18 := Lib.hid h18; clear h18
                by_cases hb : q0 = true
                · skip
                  obtain ⟨hbl9, y0, y1, y2⟩ := E.out _ hP
                  obtain ⟨gl, wh, wr1, gr, grn, grp, ga, gab⟩ := HQ.out hb
                  obtain ⟨z0, z1, z2⟩ := ER.out hb _ hP
                  simp only [hb] at hK ⊢
                  go_simp
                  exact hK _ _ _ rfl ⟨hP, hTr⟩ trivial ⟨fun _ => rfl, (fun h => by cases h)⟩
                · replace hb : q0 = false := by simpa using hb
                  simp only [hb] at hK ⊢
                  go_simp
                  exact hK _ undef _ rfl ⟨hP, hTr⟩ trivial ⟨(fun h => by cases h), fun _ => rfl⟩
              refine calmSteps_cons (fun u wq n9 hn hn2 hC hk K hK => ?_) ?_
              · obtain ⟨hP, hTr⟩ := hC
                clear hn hn2
                simp only [calmKnown, List.getElem?_cons_zero, List.getElem?_cons_succ, and_true, Is, Gd, Pure, Option.some.injEq, List.getD_cons_zero, List.getD_cons_succ, List.map_cons, List.map_nil] at hk
                obtain ⟨p20, h18⟩ := hk
                simp only [h18] at hK ⊢
                have H18 := Lib.hid h18; clear h18
                by_cases hb : q0 = true
                · skip
                  replace p20 := p20.1 hb
                  simp only [p20] at hK ⊢
                  have P20 := Lib.hid p20; clear p20
                  obtain ⟨hbl9, y0, y1, y2⟩ := E.out _ hP
                  obtain ⟨gl, wh, wr1, gr, grn, grp, ga, gab⟩ := HQ.out hb
                  obtain ⟨z0, z1, z2⟩ := ER.out hb _ hP
                  simp only [hb] at hK ⊢
                  go_simp
                  exact hK _ _ _ rfl ⟨hP, hTr⟩ trivial ⟨fun _ => rfl, (fun h => by cases h)⟩
                · replace hb : q0 = false := by simpa using hb
                  replace p20 := p20.2 hb
                  simp only [p20] at hK ⊢
                  have P20 := Lib.hid p20; clear p20
                  simp only [hb] at hK ⊢
                  go_simp
                  exact hK _ undef _ rfl ⟨hP, hTr⟩ trivial ⟨(fun h => by cases h), fun _ => rfl⟩
              refine calmSteps_cons (fun u wq n9 hn hn2 hC hk K hK => ?_) ?_
              · obtain ⟨hP, hTr⟩ := hC
                clear hn hn2
                simp only [calmKnown, List.getElem?_cons_zero, List.getElem?_cons_succ, and_true, Is, Gd, Pure, Option.some.injEq, List.getD_cons_zero, List.getD_cons_succ, List.map_cons, List.map_nil] at hk
                obtain ⟨p19, p21, h18⟩ := hk
                simp only [h18] at hK ⊢
                have H18 := Lib.hid h18; clear h18
                by_cases hb : q0 = true
                · skip
                  replace p19 := p19.1 hb
                  replace p21 := p21.1 hb
                  simp only [p19, p21] at hK ⊢
                  have P19 := Lib.hid p19; clear p19
                  have P21 := Lib.hid p21; clear p21
                  obtain ⟨hbl9, y0, y1, y2⟩ := E.out _ hP
                  obtain ⟨gl, wh, wr1, gr, grn, grp, ga, gab⟩ := HQ.out hb
                  obtain ⟨z0, z1, z2⟩ := ER.out hb _ hP
                  simp only [hb] at hK ⊢
                  go_simp
                  exact hK _ _ _ rfl ⟨hP, hTr⟩ trivial ⟨fun _ => rfl, (fun h => by cases h)⟩
                · replace hb : q0 = false := by simpa using hb
                  replace p19 := p19.2 hb
                  replace p21 := p21.2 hb
                  simp only [p19, p21] at hK ⊢
                  have P19 := Lib.hid p19; clear p19; have P21 := Lib.hid p21; clear p21
                  simp only [hb] at hK ⊢
                  go_simp
                  exact hK _ undef _ rfl ⟨hP, hTr⟩ trivial ⟨(fun h => by cases h), fun _ => rfl⟩
              refine calmSteps_cons (fun u wq n9 hn hn2 hC hk K hK => ?_) ?_
              · obtain ⟨hP, hTr⟩ := hC
                clear hn hn2
                simp only [calmKnown, List.getElem?_cons_zero, List.getElem?_cons_succ, and_true, Is, Gd, Pure, Option.some.injEq, List.getD_cons_zero, List.getD_cons_succ, List.map_cons, List.map_nil] at hk
                obtain ⟨p22, h18⟩ := hk
                simp only [h18] at hK ⊢
                have H18 := Lib.hid h18; clear h18
                by_cases hb : q0 = true
                · skip
                  replace p22 := p22.1 hb
                  simp only [p22] at hK ⊢
                  have P22 := Lib.hid p22; clear p22
                  obtain ⟨hbl9, y0, y1, y2⟩ := E.out _ hP
                  obtain ⟨gl, wh, wr1, gr, grn, grp, ga, gab⟩ := HQ.out hb
                  obtain ⟨z0, z1, z2⟩ := ER.out hb _ hP
                  simp only [hb] at hK ⊢
                  go_simp
                  exact hK _ _ _ rfl ⟨hP, hTr⟩ trivial ⟨fun _ => rfl, (fun h => by cases h)⟩
                · replace hb : q0 = false := by simpa using hb
                  replace p22 := p22.2 hb
                  simp only [p22] at hK ⊢
                  have P22 := Lib.hid p22; clear p22
                  simp only [hb] at hK ⊢
                  go_simp
                  exact hK _ undef _ rfl ⟨hP, hTr⟩ trivial ⟨(fun h => by cases h), fun _ => rfl⟩
              refine calmSteps_cons (fun u wq n9 hn hn2 hC hk K hK => ?_) ?_
              · obtain ⟨hP, hTr⟩ := hC
                clear hn hn2
                simp only [calmKnown, List.getElem?_cons_zero, List.getElem?_cons_succ, and_true, Is, Gd, Pure, Option.some.injEq, List.getD_cons_zero, List.getD_cons_succ, List.map_cons, List.map_nil] at hk
                obtain ⟨p23, h18⟩ := hk
                simp only [h18] at hK ⊢
                have H18 := Lib.hid h18; clear h18
                by_cases hb : q0 = true
                · skip
                  replace p23 := p23.1 hb
                  simp only [p23] at hK ⊢
                  have P23 := Lib.hid p23; clear p23
                  obtain ⟨hbl9, y0, y1, y2⟩ := E.out _ hP
                  obtain ⟨gl, wh, wr1, gr, grn, grp, ga, gab⟩ := HQ.out hb
                  obtain ⟨z0, z1, z2⟩ := ER.out hb _ hP
                  simp only [hb] at hK ⊢
                  go_simp
                  exact hK _ _ _ rfl ⟨hP, hTr⟩ trivial ⟨fun _ => rfl, (fun h => by cases h)⟩
                · replace hb : q0 = false := by simpa using hb
                  replace p23 := p23.2 hb
                  simp only [p23] at hK ⊢
                  have P23 := Lib.hid p23; clear p23
                  simp only [hb] at hK ⊢
                  go_simp
                  exact hK _ undef _ rfl ⟨hP, hTr⟩ trivial ⟨(fun h => by cases h), fun _ => rfl⟩
              refine calmSteps_cons (fun u wq n9 hn hn2 hC hk K hK => ?_) ?_
              · obtain ⟨hP, hTr⟩ := hC
                clear hn hn2
                simp only [calmKnown, List.getElem?_cons_zero, List.getElem?_cons_succ, and_true, Is, Gd, Pure, Option.some.injEq, List.getD_cons_zero, List.getD_cons_succ, List.map_cons, List.map_nil] at hk
                obtain ⟨p24, h18⟩ := hk
                simp only [h18] at hK ⊢
                have H18 := Lib.hid h18; clear h18
                by_cases hb : q0 = true
                · skip
                  replace p24 := p24.1 hb
                  simp only [p24] at hK ⊢
                  have P24 := Lib.hid p24; clear p24
                  obtain ⟨hbl9, y0, y1, y2⟩ := E.out _ hP
                  obtain ⟨gl, wh, wr1, gr, grn, grp, ga, gab⟩ := HQ.out hb
                  obtain ⟨z0, z1, z2⟩ := ER.out hb _ hP
                  simp only [hb] at hK ⊢
                  go_simp
                  exact hK _ _ _ rfl ⟨hP, hTr⟩ trivial ⟨fun _ => rfl, (fun h => by cases h)⟩
                · replace hb : q0 = false := by simpa using hb
                  replace p24 := p24.2 hb
                  simp only [p24] at hK ⊢
                  have P24 := Lib.hid p24; clear p24
                  simp only [hb] at hK ⊢
                  go_simp
                  exact hK _ undef _ rfl ⟨hP, hTr⟩ trivial ⟨(fun h => by cases h), fun _ => rfl⟩
              refine calmSteps_cons (fun u wq n9 hn hn2 hC hk K hK => ?_) ?_
              · obtain ⟨hP, hTr⟩ := hC
                clear hn hn2
                simp only [calmKnown, List.getElem?_cons_zero, List.getElem?_cons_succ, and_true, Is, Gd, Pure, Option.some.injEq, List.getD_cons_zero, List.getD_cons_succ, List.map_cons, List.map_nil] at hk
                have h18 := hk; clear hk
                simp only [h18] at hK ⊢
                have H18 := Lib.hid h18; clear h18
                by_cases hb : q0 = true
                · skip
                  obtain ⟨hbl9, y0, y1, y2⟩ := E.out _ hP
                  obtain ⟨gl, wh, wr1, gr, grn, grp, ga, gab⟩ := HQ.out hb
                  obtain ⟨z0, z1, z2⟩ := ER.out hb _ hP
                  simp only [hb] at hK ⊢
                  go_simp
                  exact hK _ _ _ rfl ⟨hP, hTr⟩ trivial ⟨fun _ => rfl, (fun h => by cases h)⟩
                · replace hb : q0 = false := by simpa using hb
                  simp only [hb] at hK ⊢
                  go_simp
                  exact hK _ undef _ rfl ⟨hP, hTr⟩ trivial ⟨(fun h => by cases h), fun _ => rfl⟩
              refine calmSteps_cons (fun u wq n9 hn hn2 hC hk K hK => ?_) ?_
              · obtain ⟨hP, hTr⟩ := hC
                clear hn hn2
                simp only [calmKnown, List.getElem?_cons_zero, List.getElem?_cons_succ, and_true, Is, Gd, Pure, Option.some.injEq, List.getD_cons_zero, List.getD_cons_succ, List.map_cons, List.map_nil] at hk
                have h18 := hk; clear hk
                simp only [h18] at hK ⊢
                have H18 := Lib.hid h18; clear h18
                by_cases hb : q0 = true
                · skip
                  obtain ⟨hbl9, y0, y1, y2⟩ := E.out _ hP
                  obtain ⟨gl, wh, wr1, gr, grn, grp, ga, gab⟩ := HQ.out hb
                  obtain ⟨z0, z1, z2⟩ := ER.out hb _ hP
                  simp only [hb] at hK ⊢
                  go_simp
                  exact hK _ _ _ rfl ⟨hP, hTr⟩ trivial ⟨fun _ => rfl, (fun h => by cases h)⟩
                · replace hb : q0 = false := by simpa using hb
                  simp only [hb] at hK ⊢
                  go_simp
                  exact hK _ undef _ rfl ⟨hP, hTr⟩ trivial ⟨(fun h => by cases h), fun _ => rfl⟩
              refine calmSteps_cons (fun u wq n9 hn hn2 hC hk K hK => ?_) ?_
              · obtain ⟨hP, hTr⟩ := hC
                clear hn hn2
                simp only [calmKnown, List.getElem?_cons_zero, List.getElem?_cons_succ, and_true, Is, Gd, Pure, Option.some.injEq, List.getD_cons_zero, List.getD_cons_succ, List.map_cons, List.map_nil] at hk
                obtain ⟨p26, p27, h18⟩ := hk
                simp only [h18] at hK ⊢
                have H18 := Lib.hid h18; clear h18
                by_cases hb : q0 = true
                · skip
                  replace p26 := p26.1 hb
                  replace p27 := p27.1 hb
                  simp only [p26, p27] at hK ⊢
                  have P26 := Lib.hid p26; clear p26
                  have P27 := Lib.hid p27; clear p27
                  obtain ⟨hbl9, y0, y1, y2⟩ := E.out _ hP
                  obtain ⟨gl, wh, wr1, gr, grn, grp, ga, gab⟩ := HQ.out hb
                  obtain ⟨z0, z1, z2⟩ := ER.out hb _ hP
                  simp only [hb] at hK ⊢
                  go_simp
                  exact hK _ _ _ rfl ⟨hP, hTr⟩ trivial ⟨fun _ => rfl, (fun h => by cases h)⟩
                · replace hb : q0 = false := by simpa using hb
                  replace p26 := p26.2 hb
                  replace p27 := p27.2 hb
                  simp only [p26, p27] at hK ⊢
                  have P26 := Lib.hid p26; clear p26; have P27 := Lib.hid p27; clear p27
                  simp only [hb] at hK ⊢
                  go_simp
                  exact hK _ undef _ rfl ⟨hP, hTr⟩ trivial ⟨(fun h => by cases h), fun _ => rfl⟩
              refine calmSteps_cons (fun u wq n9 hn hn2 hC hk K hK => ?_) ?_
              · obtain ⟨hP, hTr⟩ := hC
                clear hn hn2
                simp only [calmKnown, List.getElem?_cons_zero, List.getElem?_cons_succ, and_true, Is, Gd, Pure, Option.some.injEq, List.getD_cons_zero, List.getD_cons_succ, List.map_cons, List.map_nil] at hk
                obtain ⟨p28, h18⟩ := hk
                simp only [h18] at hK ⊢
                have H18 := Lib.hid h18; clear h18
                by_cases hb : q0 = true
                · skip
                  replace p28 := p28.1 hb
                  simp only [p28] at hK ⊢
                  have P28 := Lib.hid p28; clear p28
                  obtain ⟨hbl9, y0, y1, y2⟩ := E.out _ hP
                  obtain ⟨gl, wh, wr1, gr, grn, grp, ga, gab⟩ := HQ.out hb
                  obtain ⟨z0, z1, z2⟩ := ER.out hb _ hP
                  simp only [hb] at hK ⊢
                  go_simp
                  exact hK _ _ _ rfl ⟨hP, hTr⟩ trivial ⟨fun _ => rfl, (fun h => by cases h)⟩
                · replace hb : q0 = false := by simpa using hb
                  replace p28 := p28.2 hb
                  simp only [p28] at hK ⊢
                  have P28 := Lib.hid p28; clear p28
                  simp only [hb] at hK ⊢
                  go_simp
                  exact hK _ undef _ rfl ⟨hP, hTr⟩ trivial ⟨(fun h => by cases h), fun _ => rfl⟩
              refine calmSteps_cons (fun u wq n9 hn hn2 hC hk K hK => ?_) ?_
              · obtain ⟨hP, hTr⟩ := hC
                clear hn hn2
                simp only [calmKnown, List.getElem?_cons_zero, List.getElem?_cons_succ, and_true, Is, Gd, Pure, Option.some.injEq, List.getD_cons_zero, List.getD_cons_succ, List.map_cons, List.map_nil] at hk
                obtain ⟨p29, h18⟩ := hk
                simp only [h18] at hK ⊢
                have H18 := Lib.hid h18; clear h18
                by_cases hb : q0 = true
                · skip
                  replace p29 := p29.1 hb
                  simp only [p29] at hK ⊢
                  have P29 := Lib.hid p29; clear p29
                  obtain ⟨hbl9, y0, y1, y2⟩ := E.out _ hP
                  obtain ⟨gl, wh, wr1, gr, grn, grp, ga, gab⟩ := HQ.out hb
                  obtain ⟨z0, z1, z2⟩ := ER.out hb _ hP
                  simp only [hb] at hK ⊢
                  go_simp
                  exact hK _ _ _ rfl ⟨hP, hTr⟩ trivial ⟨fun _ => rfl, (fun h => by cases h)⟩
                · replace hb : q0 = false := by simpa using hb
                  replace p29 := p29.2 hb
                  simp only [p29] at hK ⊢
                  have P29 := Lib.hid p29; clear p29
                  simp only [hb] at hK ⊢
                  go_simp
                  exact hK _ undef _ rfl ⟨hP, hTr⟩ trivial ⟨(fun h => by cases h), fun _ => rfl⟩
              refine calmSteps_cons (fun u wq n9 hn hn2 hC hk K hK => ?_) ?_
              · obtain ⟨hP, hTr⟩ := hC
                clear hn hn2
                simp only [calmKnown, List.getElem?_cons_zero, List.getElem?_cons_succ, and_true, Is, Gd, Pure, Option.some.injEq, List.getD_cons_zero, List.getD_cons_succ, List.map_cons, List.map_nil] at hk
                obtain ⟨p30, h18⟩ := hk
                simp only [h18] at hK ⊢
                have H18 := Lib.hid h18; clear h18
                by_cases hb : q0 = true
                · skip
                  replace p30 := p30.1 hb
                  simp only [p30] at hK ⊢
                  have P30 := Lib.hid p30; clear p30
                  obtain ⟨hbl9, y0, y1, y2⟩ := E.out _ hP
                  obtain ⟨gl, wh, wr1, gr, grn, grp, ga, gab⟩ := HQ.out hb
                  obtain ⟨z0, z1, z2⟩ := ER.out hb _ hP
                  simp only [hb] at hK ⊢
                  go_simp
                  exact hK _ _ _ rfl ⟨hP, hTr⟩ trivial ⟨fun _ => rfl, (fun h => by cases h)⟩
                · replace hb : q0 = false := by simpa using hb
                  replace p30 := p30.2 hb
                  simp only [p30] at hK ⊢
                  have P30 := Lib.hid p30; clear p30
                  simp only [hb] at hK ⊢
                  go_simp
                  exact hK _ undef _ rfl ⟨hP, hTr⟩ trivial ⟨(fun h => by cases h), fun _ => rfl⟩
              refine calmSteps_cons (fun u wq n9 hn hn2 hC hk K hK => ?_) ?_
              · obtain ⟨hP, hTr⟩ := hC
                clear hn hn2
                simp only [calmKnown, List.getElem?_cons_zero, List.getElem?_cons_succ, and_true, Is, Gd, Pure, Option.some.injEq, List.getD_cons_zero, List.getD_cons_succ, List.map_cons, List.map_nil] at hk
                obtain ⟨p25, p31, h18⟩ := hk
                simp only [h18] at hK ⊢
                have H18 := Lib.hid h18; clear h18
                by_cases hb : q0 = true
                · skip
                  replace p25 := p25.1 hb
                  replace p31 := p31.1 hb
                  simp only [p25, p31] at hK ⊢
                  have P25 := Lib.hid p25; clear p25
                  have P31 := Lib.hid p31; clear p31
                  obtain ⟨hbl9, y0, y1, y2⟩ := E.out _ hP
                  obtain ⟨gl, wh, wr1, gr, grn, grp, ga, gab⟩ := HQ.out hb
                  obtain ⟨z0, z1, z2⟩ := ER.out hb _ hP
                  simp only [hb] at hK ⊢
                  go_simp
                  exact hK _ _ _ rfl ⟨hP, hTr⟩ trivial ⟨fun _ => rfl, (fun h => by cases h)⟩
                · replace hb : q0 = false := by simpa using hb
                  replace p25 := p25.2 hb
                  replace p31 := p31.2 hb
                  simp only [p25, p31] at hK ⊢
                  have P25 := Lib.hid p25; clear p25; have P31 := Lib.hid p31; clear p31
                  simp only [hb] at hK ⊢
                  go_simp
                  exact hK _ undef _ rfl ⟨hP, hTr⟩ trivial ⟨(fun h => by cases h), fun _ => rfl⟩
              refine calmSteps_cons (fun u wq n9 hn hn2 hC hk K hK => ?_) ?_
              · obtain ⟨hP, hTr⟩ := hC
                clear hn hn2
                simp only [calmKnown, List.getElem?_cons_zero, List.getElem?_cons_succ, and_true, Is, Gd, Pure, Option.some.injEq, List.getD_cons_zero, List.getD_cons_succ, List.map_cons, List.map_nil] at hk
                obtain ⟨p32, h18⟩ := hk
                simp only [h18] at hK ⊢
                have H18 := Lib.hid h18; clear h18
                by_cases hb : q0 = true
                · skip
                  replace p32 := p32.1 hb
                  simp only [p32] at hK ⊢
                  have P32 := Lib.hid p32; clear p32
                  obtain ⟨hbl9, y0, y1, y2⟩ := E.out _ hP
                  obtain ⟨gl, wh, wr1, gr, grn, grp, ga, gab⟩ := HQ.out hb
                  obtain ⟨z0, z1, z2⟩ := ER.out hb _ hP
                  simp only [hb] at hK ⊢
                  go_simp
                  exact hK _ _ _ rfl ⟨hP, hTr⟩ trivial ⟨fun _ => rfl, (fun h => by cases h)⟩
                · replace hb : q0 = false := by simpa using hb
                  replace p32 := p32.2 hb
                  simp only [p32] at hK ⊢
                  have P32 := Lib.hid p32; clear p32
                  simp only [hb] at hK ⊢
                  go_simp
                  exact hK _ undef _ rfl ⟨hP, hTr⟩ trivial ⟨(fun h => by cases h), fun _ => rfl⟩
              refine calmSteps_cons (fun u wq n9 hn hn2 hC hk K hK => ?_) ?_
              · obtain ⟨hP, hTr⟩ := hC
                clear hn hn2
                simp only [calmKnown, List.getElem?_cons_zero, List.getElem?_cons_succ, and_true, Is, Gd, Pure, Option.some.injEq, List.getD_cons_zero, List.getD_cons_succ, List.map_cons, List.map_nil] at hk
                have p33 := hk; clear hk
                by_cases hb : q0 = true
                · skip
                  replace p33 := p33.1 hb
                  simp only [p33] at hK ⊢
                  have P33 := Lib.hid p33; clear p33
                  obtain ⟨hbl9, y0, y1, y2⟩ := E.out _ hP
                  obtain ⟨gl, wh, wr1, gr, grn, grp, ga, gab⟩ := HQ.out hb
                  obtain ⟨z0, z1, z2⟩ := ER.out hb _ hP
                  simp only [hb] at hK ⊢
                  go_simp
                  exact hK _ _ _ rfl ⟨hP, hTr⟩ trivial ⟨fun _ => rfl, (fun h => by cases h)⟩
                · replace hb : q0 = false := by simpa using hb
                  replace p33 := p33.2 hb
                  simp only [p33] at hK ⊢
                  have P33 := Lib.hid p33; clear p33
                  simp only [hb] at hK ⊢
                  go_simp
                  exact hK _ undef _ rfl ⟨hP, hTr⟩ trivial ⟨(fun h => by cases h), fun _ => rfl⟩
              refine calmSteps_cons (fun u wq n9 hn hn2 hC hk K hK => ?_) ?_
              · obtain ⟨hP, hTr⟩ := hC
                clear hn hn2
                simp only [calmKnown, List.getElem?_cons_zero, List.getElem?_cons_succ, and_true, Is, Gd, Pure, Option.some.injEq, List.getD_cons_zero, List.getD_cons_succ, List.map_cons, List.map_nil] at hk
                have p33 := hk; clear hk
                by_cases hb : q0 = true
                · skip
                  replace p33 := p33.1 hb
                  simp only [p33] at hK ⊢
                  have P33 := Lib.hid p33; clear p33
                  obtain ⟨hbl9, y0, y1, y2⟩ := E.out _ hP
                  obtain ⟨gl, wh, wr1, gr, grn, grp, ga, gab⟩ := HQ.out hb
                  obtain ⟨z0, z1, z2⟩ := ER.out hb _ hP
                  simp only [hb] at hK ⊢
                  go_simp
                  exact hK _ _ _ rfl ⟨hP, hTr⟩ trivial ⟨fun _ => rfl, (fun h => by cases h)⟩
                · replace hb : q0 = false := by simpa using hb
                  replace p33 := p33.2 hb
                  simp only [p33] at hK ⊢
                  have P33 := Lib.hid p33; clear p33
                  simp only [hb] at hK ⊢
                  go_simp
                  exact hK _ undef _ rfl ⟨hP, hTr⟩ trivial ⟨(fun h => by cases h), fun _ => rfl⟩
              refine calmSteps_cons (fun u wq n9 hn hn2 hC hk K hK => ?_) ?_
              · obtain ⟨hP, hTr⟩ := hC
                clear hn hn2
                simp only [calmKnown, List.getElem?_cons_zero, List.getElem?_cons_succ, and_true, Is, Gd, Pure, Option.some.injEq, List.getD_cons_zero, List.getD_cons_succ, List.map_cons, List.map_nil] at hk
                obtain ⟨p35, p33⟩ := hk
                by_cases hb : q0 = true
                · skip
                  replace p35 := p35.1 hb
                  replace p33 := p33.1 hb
                  simp only [p35, p33] at hK ⊢
                  have P35 := Lib.hid p35; clear p35
                  have P33 := Lib.hid p33; clear p33
                  obtain ⟨hbl9, y0, y1, y2⟩ := E.out _ hP
                  obtain ⟨gl, wh, wr1, gr, grn, grp, ga, gab⟩ := HQ.out hb
                  obtain ⟨z0, z1, z2⟩ := ER.out hb _ hP
                  simp only [hb] at hK ⊢
                  go_simp
                  exact hK _ _ _ rfl ⟨hP, hTr⟩ trivial ⟨fun _ => rfl, (fun h => by cases h)⟩
                · replace hb : q0 = false := by simpa using hb
                  replace p35 := p35.2 hb
                  replace p33 := p33.2 hb
                  simp only [p35, p33] at hK ⊢
                  have P35 := Lib.hid p35; clear p35; have P33 := Lib.hid p33; clear p33
                  simp only [hb] at hK ⊢
                  go_simp
                  exact hK _ undef _ rfl ⟨hP, hTr⟩ trivial ⟨(fun h => by cases h), fun _ => rfl⟩
              refine calmSteps_cons (fun u wq n9 hn hn2 hC hk K hK => ?_) ?_
              · obtain ⟨hP, hTr⟩ := hC
                clear hn hn2
                simp only [calmKnown, List.getElem?_cons_zero, List.getElem?_cons_succ, and_true, Is, Gd, Pure, Option.some.injEq, List.getD_cons_zero, List.getD_cons_succ, List.map_cons, List.map_nil] at hk
                obtain ⟨p34, p36, p33⟩ := hk
                by_cases hb : q0 = true
                · skip
                  replace p34 := p34.1 hb
                  replace p36 := p36.1 hb
                  replace p33 := p33.1 hb
                  simp only [p34, p36, p33] at hK ⊢
                  have P34 := Lib.hid p34; clear p34
                  have P36 := Lib.hid p36; clear p36
                  have P33 := Lib.hid p33; clear p33
                  obtain ⟨hbl9, y0, y1, y2⟩ := E.out _ hP
                  obtain ⟨gl, wh, wr1, gr, grn, grp, ga, gab⟩ := HQ.out hb
                  obtain ⟨z0, z1, z2⟩ := ER.out hb _ hP
                  simp only [hb] at hK ⊢
                  go_simp
                  exact hK _ _ _ rfl ⟨hP, hTr⟩ trivial ⟨fun _ => rfl, (fun h => by cases h)⟩
                · replace hb : q0 = false := by simpa using hb
                  replace p34 := p34.2 hb
                  replace p36 := p36.2 hb
                  replace p33 := p33.2 hb
                  simp only [p34, p36, p33] at hK ⊢
                  have P34 := Lib.hid p34; clear p34; have P36 := Lib.hid p36; clear p36; have P33 := Lib.hid p33; clear p33
                  simp only [hb] at hK ⊢
                  go_simp
                  exact hK _ undef _ rfl ⟨hP, hTr⟩ trivial ⟨(fun h => by cases h), fun _ => rfl⟩
              refine calmSteps_cons (fun u wq n9 hn hn2 hC hk K hK => ?_) ?_
              · obtain ⟨hP, hTr⟩ := hC
                clear hn hn2
                simp only [calmKnown, List.getElem?_cons_zero, List.getElem?_cons_succ, and_true, Is, Gd, Pure, Option.some.injEq, List.getD_cons_zero, List.getD_cons_succ, List.map_cons, List.map_nil] at hk
                obtain ⟨p37, p33⟩ := hk
                by_cases hb : q0 = true
                · skip
                  replace p37 := p37.1 hb
                  replace p33 := p33.1 hb
                  simp only [p37, p33] at hK ⊢
                  have P37 := Lib.hid p37; clear p37
                  have P33 := Lib.hid p33; clear p33
                  obtain ⟨hbl9, y0, y1, y2⟩ := E.out _ hP
                  obtain ⟨gl, wh, wr1, gr, grn, grp, ga, gab⟩ := HQ.out hb
                  obtain ⟨z0, z1, z2⟩ := ER.out hb _ hP
                  simp only [hb] at hK ⊢
                  go_simp
                  exact hK _ _ _ rfl ⟨hP, hTr⟩ trivial ⟨fun _ => rfl, (fun h => by cases h)⟩
                · replace hb : q0 = false := by simpa using hb
                  replace p37 := p37.2 hb
                  replace p33 := p33.2 hb
                  simp only [p37, p33] at hK ⊢
                  have P37 := Lib.hid p37; clear p37; have P33 := Lib.hid p33; clear p33
                  simp only [hb] at hK ⊢
                  go_simp
                  exact hK _ undef _ rfl ⟨hP, hTr⟩ trivial ⟨(fun h => by cases h), fun _ => rfl⟩
              refine calmSteps_cons (fun u wq n9 hn hn2 hC hk K hK => ?_) ?_
              · obtain ⟨hP, hTr⟩ := hC
                clear hn hn2
                simp only [calmKnown, List.getElem?_cons_zero, List.getElem?_cons_succ, and_true, Is, Gd, Pure, Option.some.injEq, List.getD_cons_zero, List.getD_cons_succ, List.map_cons, List.map_nil] at hk
                obtain ⟨p38, p33⟩ := hk
                by_cases hb : q0 = true
                · skip
                  replace p38 := p38.1 hb
                  replace p33 := p33.1 hb
                  simp only [p38, p33] at hK ⊢
                  have P38 := Lib.hid p38; clear p38
                  have P33 := Lib.hid p33; clear p33
                  obtain ⟨hbl9, y0, y1, y2⟩ := E.out _ hP
                  obtain ⟨gl, wh, wr1, gr, grn, grp, ga, gab⟩ := HQ.out hb
                  obtain ⟨z0, z1, z2⟩ := ER.out hb _ hP
                  simp only [hb] at hK ⊢
                  go_simp
                  exact hK _ _ _ rfl ⟨hP, hTr⟩ trivial ⟨fun _ => rfl, (fun h => by cases h)⟩
                · replace hb : q0 = false := by simpa using hb
                  replace p38 := p38.2 hb
                  replace p33 := p33.2 hb
                  simp only [p38, p33] at hK ⊢
                  have P38 := Lib.hid p38; clear p38; have P33 := Lib.hid p33; clear p33
                  simp only [hb] at hK ⊢
                  go_simp
                  exact hK _ undef _ rfl ⟨hP, hTr⟩ trivial ⟨(fun h => by cases h), fun _ => rfl⟩
              refine calmSteps_cons (fun u wq n9 hn hn2 hC hk K hK => ?_) ?_
              · obtain ⟨hP, hTr⟩ := hC
                clear hn hn2
                simp only [calmKnown, List.getElem?_cons_zero, List.getElem?_cons_succ, and_true, Is, Gd, Pure, Option.some.injEq, List.getD_cons_zero, List.getD_cons_succ, List.map_cons, List.map_nil] at hk
                obtain ⟨p39, p33⟩ := hk
                by_cases hb : q0 = true
                · skip
                  replace p39 := p39.1 hb
                  replace p33 := p33.1 hb
                  simp only [p39, p33] at hK ⊢
                  have P39 := Lib.hid p39; clear p39
                  have P33 := Lib.hid p33; clear p33
                  obtain ⟨hbl9, y0, y1, y2⟩ := E.out _ hP
                  obtain ⟨gl, wh, wr1, gr, grn, grp, ga, gab⟩ := HQ.out hb
                  obtain ⟨z0, z1, z2⟩ := ER.out hb _ hP
                  simp only [hb] at hK ⊢
                  go_simp
                  exact hK _ _ _ rfl ⟨hP, hTr⟩ trivial ⟨fun _ => rfl, (fun h => by cases h)⟩
                · replace hb : q0 = false := by simpa using hb
                  replace p39 := p39.2 hb
                  replace p33 := p33.2 hb
                  simp only [p39, p33] at hK ⊢
                  have P39 := Lib.hid p39; clear p39; have P33 := Lib.hid p33; clear p33
                  simp only [hb] at hK ⊢
                  go_simp
                  exact hK _ undef _ rfl ⟨hP, hTr⟩ trivial ⟨(fun h => by cases h), fun _ => rfl⟩
              refine calmSteps_cons (fun u wq n9 hn hn2 hC hk K hK => ?_) ?_
              · obtain ⟨hP, hTr⟩ := hC
                clear hn hn2
                simp only [calmKnown, List.getElem?_cons_zero, List.getElem?_cons_succ, and_true, Is, Gd, Pure, Option.some.injEq, List.getD_cons_zero, List.getD_cons_succ, List.map_cons, List.map_nil] at hk
                obtain ⟨p40, p33⟩ := hk
                by_cases hb : q0 = true
                · skip
                  replace p40 := p40.1 hb
                  replace p33 := p33.1 hb
                  simp only [p40, p33] at hK ⊢
                  have P40 := Lib.hid p40; clear p40
                  have P33 := Lib.hid p33; clear p33
                  obtain ⟨hbl9, y0, y1, y2⟩ := E.out _ hP
                  obtain ⟨gl, wh, wr1, gr, grn, grp, ga, gab⟩ := HQ.out hb
                  obtain ⟨z0, z1, z2⟩ := ER.out hb _ hP
                  simp only [hb] at hK ⊢
                  go_simp
                  exact hK _ _ _ rfl ⟨hP, hTr⟩ trivial ⟨fun _ => rfl, (fun h => by cases h)⟩
                · replace hb : q0 = false := by simpa using hb
                  replace p40 := p40.2 hb
                  replace p33 := p33.2 hb
                  simp only [p40, p33] at hK ⊢
                  have P40 := Lib.hid p40; clear p40; have P33 := Lib.hid p33; clear p33
                  simp only [hb] at hK ⊢
                  go_simp
                  exact hK _ undef _ rfl ⟨hP, hTr⟩ trivial ⟨(fun h => by cases h), fun _ => rfl⟩
              refine calmSteps_cons (fun u wq n9 hn hn2 hC hk K hK => ?_) ?_
              · obtain ⟨hP, hTr⟩ := hC
                clear hn hn2
                simp only [calmKnown, List.getElem?_cons_zero, List.getElem?_cons_succ, and_true, Is, Gd, Pure, Option.some.injEq, List.getD_cons_zero, List.getD_cons_succ, List.map_cons, List.map_nil] at hk
                have p33 := hk; clear hk
                by_cases hb : q0 = true
                · skip
                  replace p33 := p33.1 hb
                  simp only [p33] at hK ⊢
                  have P33 := Lib.hid p33; clear p33
                  obtain ⟨hbl9, y0, y1, y2⟩ := E.out _ hP
                  obtain ⟨gl, wh, wr1, gr, grn, grp, ga, gab⟩ := HQ.out hb
                  obtain ⟨z0, z1, z2⟩ := ER.out hb _ hP
                  simp only [hb] at hK ⊢
                  go_simp
                  exact hK _ _ _ rfl ⟨hP, hTr⟩ trivial ⟨fun _ => rfl, (fun h => by cases h)⟩
                · replace hb : q0 = false := by simpa using hb
                  replace p33 := p33.2 hb
                  simp only [p33] at hK ⊢
                  have P33 := Lib.hid p33; clear p33
                  simp only [hb] at hK ⊢
                  go_simp
                  exact hK _ undef _ rfl ⟨hP, hTr⟩ trivial ⟨(fun h => by cases h), fun _ => rfl⟩
              refine calmSteps_cons (fun u wq n9 hn hn2 hC hk K hK => ?_) ?_
              · obtain ⟨hP, hTr⟩ := hC
                clear hn hn2
                simp only [calmKnown, List.getElem?_cons_zero, List.getElem?_cons_succ, and_true, Is, Gd, Pure, Option.some.injEq, List.getD_cons_zero, List.getD_cons_succ, List.map_cons, List.map_nil] at hk
                have p33 := hk; clear hk
                by_cases hb : q0 = true
                · skip
                  replace p33 := p33.1 hb
                  simp only [p33] at hK ⊢
                  have P33 := Lib.hid p33; clear p33
                  obtain ⟨hbl9, y0, y1, y2⟩ := E.out _ hP
                  obtain ⟨gl, wh, wr1, gr, grn, grp, ga, gab⟩ := HQ.out hb
                  obtain ⟨z0, z1, z2⟩ := ER.out hb _ hP
                  simp only [hb] at hK ⊢
                  go_simp
                  exact hK _ _ _ rfl ⟨hP, hTr⟩ trivial ⟨fun _ => rfl, (fun h => by cases h)⟩
                · replace hb : q0 = false := by simpa using hb
                  replace p33 := p33.2 hb
                  simp only [p33] at hK ⊢
                  have P33 := Lib.hid p33; clear p33
                  simp only [hb] at hK ⊢
                  go_simp
                  exact hK _ undef _ rfl ⟨hP, hTr⟩ trivial ⟨(fun h => by cases h), fun _ => rfl⟩
              refine calmSteps_cons (fun u wq n9 hn hn2 hC hk K hK => ?_) ?_
              · obtain ⟨hP, hTr⟩ := hC
                clear hn hn2
                simp only [calmKnown, List.getElem?_cons_zero, List.getElem?_cons_succ, and_true, Is, Gd, Pure, Option.some.injEq, List.getD_cons_zero, List.getD_cons_succ, List.map_cons, List.map_nil] at hk
                obtain ⟨p42, p43, p33⟩ := hk
                by_cases hb : q0 = true
                · skip
                  replace p42 := p42.1 hb
                  replace p43 := p43.1 hb
                  replace p33 := p33.1 hb
                  simp only [p42, p43, p33] at hK ⊢
                  have P42 := Lib.hid p42; clear p42
                  have P43 := Lib.hid p43; clear p43
                  have P33 := Lib.hid p33; clear p33
                  obtain ⟨hbl9, y0, y1, y2⟩ := E.out _ hP
                  obtain ⟨gl, wh, wr1, gr, grn, grp, ga, gab⟩ := HQ.out hb
                  obtain ⟨z0, z1, z2⟩ := ER.out hb _ hP
                  simp only [hb] at hK ⊢
                  go_simp
                  exact hK _ _ _ rfl ⟨hP, hTr⟩ trivial ⟨fun _ => rfl, (fun h => by cases h)⟩
                · replace hb : q0 = false := by simpa using hb
                  replace p42 := p42.2 hb
                  replace p43 := p43.2 hb
                  replace p33 := p33.2 hb
                  simp only [p42, p43, p33] at hK ⊢
                  have P42 := Lib.hid p42; clear p42; have P43 := Lib.hid p43; clear p43; have P33 := Lib.hid p33; clear p33
                  simp only [hb] at hK ⊢
                  go_simp
                  exact hK _ undef _ rfl ⟨hP, hTr⟩ trivial ⟨(fun h => by cases h), fun _ => rfl⟩
              refine calmSteps_cons (fun u wq n9 hn hn2 hC hk K hK => ?_) ?_
              · obtain ⟨hP, hTr⟩ := hC
                clear hn hn2
                simp only [calmKnown, List.getElem?_cons_zero, List.getElem?_cons_succ, and_true, Is, Gd, Pure, Option.some.injEq, List.getD_cons_zero, List.getD_cons_succ, List.map_cons, List.map_nil] at hk
                obtain ⟨p44, p33⟩ := hk
                by_cases hb : q0 = true
                · skip
                  replace p44 := p44.1 hb
                  replace p33 := p33.1 hb
                  simp only [p44, p33] at hK ⊢
                  have P44 := Lib.hid p44; clear p44
                  have P33 := Lib.hid p33; clear p33
                  obtain ⟨hbl9, y0, y1, y2⟩ := E.out _ hP
                  obtain ⟨gl, wh, wr1, gr, grn, grp, ga, gab⟩ := HQ.out hb
                  obtain ⟨z0, z1, z2⟩ := ER.out hb _ hP
                  simp only [hb] at hK ⊢
                  go_simp
                  exact hK _ _ _ rfl ⟨hP, hTr⟩ trivial ⟨fun _ => rfl, (fun h => by cases h)⟩
                · replace hb : q0 = false := by simpa using hb
                  replace p44 := p44.2 hb
                  replace p33 := p33.2 hb
                  simp only [p44, p33] at hK ⊢
                  have P44 := Lib.hid p44; clear p44; have P33 := Lib.hid p33; clear p33
                  simp only [hb] at hK ⊢
                  go_simp
                  exact hK _ undef _ rfl ⟨hP, hTr⟩ trivial ⟨(fun h => by cases h), fun _ => rfl⟩
              refine calmSteps_cons (fun u wq n9 hn hn2 hC hk K hK => ?_) ?_
              · obtain ⟨hP, hTr⟩ := hC
                clear hn hn2
                simp only [calmKnown, List.getElem?_cons_zero, List.getElem?_cons_succ, and_true, Is, Gd, Pure, Option.some.injEq, List.getD_cons_zero, List.getD_cons_succ, List.map_cons, List.map_nil] at hk
                obtain ⟨p45, p33⟩ := hk
                by_cases hb : q0 = true
                · skip
                  replace p45 := p45.1 hb
                  replace p33 := p33.1 hb
                  simp only [p45, p33] at hK ⊢
                  have P45 := Lib.hid p45; clear p45
                  have P33 := Lib.hid p33; clear p33
                  obtain ⟨hbl9, y0, y1, y2⟩ := E.out _ hP
                  obtain ⟨gl, wh, wr1, gr, grn, grp, ga, gab⟩ := HQ.out hb
                  obtain ⟨z0, z1, z2⟩ := ER.out hb _ hP
                  simp only [hb] at hK ⊢
                  go_simp
                  exact hK _ _ _ rfl ⟨hP, hTr⟩ trivial ⟨fun _ => rfl, (fun h => by cases h)⟩
                · replace hb : q0 = false := by simpa using hb
                  replace p45 := p45.2 hb
                  replace p33 := p33.2 hb
                  simp only [p45, p33] at hK ⊢
                  have P45 := Lib.hid p45; clear p45; have P33 := Lib.hid p33; clear p33
                  simp only [hb] at hK ⊢
                  go_simp
                  exact hK _ undef _ rfl ⟨hP, hTr⟩ trivial ⟨(fun h => by cases h), fun _ => rfl⟩
              refine calmSteps_cons (fun u wq n9 hn hn2 hC hk K hK => ?_) ?_
              · obtain ⟨hP, hTr⟩ := hC
                clear hn hn2
                simp only [calmKnown, List.getElem?_cons_zero, List.getElem?_cons_succ, and_true, Is, Gd, Pure, Option.some.injEq, List.getD_cons_zero, List.getD_cons_succ, List.map_cons, List.map_nil] at hk
                obtain ⟨p46, p33⟩ := hk
                by_cases hb : q0 = true
                · skip
                  replace p46 := p46.1 hb
                  replace p33 := p33.1 hb
                  simp only [p46, p33] at hK ⊢
                  have P46 := Lib.hid p46; clear p46
                  have P33 := Lib.hid p33; clear p33
                  obtain ⟨hbl9, y0, y1, y2⟩ := E.out _ hP
                  obtain ⟨gl, wh, wr1, gr, grn, grp, ga, gab⟩ := HQ.out hb
                  obtain ⟨z0, z1, z2⟩ := ER.out hb _ hP
                  simp only [hb] at hK ⊢
                  go_simp
                  exact hK _ _ _ rfl ⟨hP, hTr⟩ trivial ⟨fun _ => rfl, (fun h => by cases h)⟩
                · replace hb : q0 = false := by simpa using hb
                  replace p46 := p46.2 hb
                  replace p33 := p33.2 hb
                  simp only [p46, p33] at hK ⊢
                  have P46 := Lib.hid p46; clear p46; have P33 := Lib.hid p33; clear p33
                  simp only [hb] at hK ⊢
                  go_simp
                  exact hK _ undef _ rfl ⟨hP, hTr⟩ trivial ⟨(fun h => by cases h), fun _ => rfl⟩
              refine calmSteps_cons (fun u wq n9 hn hn2 hC hk K hK => ?_) ?_
              · obtain ⟨hP, hTr⟩ := hC
                clear hn hn2
                simp only [calmKnown, List.getElem?_cons_zero, List.getElem?_cons_succ, and_true, Is, Gd, Pure, Option.some.injEq, List.getD_cons_zero, List.getD_cons_succ, List.map_cons, List.map_nil] at hk
                obtain ⟨p41, p47, p33⟩ := hk
                by_cases hb : q0 = true
                · skip
                  replace p41 := p41.1 hb
                  replace p47 := p47.1 hb
                  replace p33 := p33.1 hb
                  simp only [p41, p47, p33] at hK ⊢
                  have P41 := Lib.hid p41; clear p41
                  have P47 := Lib.hid p47; clear p47
                  have P33 := Lib.hid p33; clear p33
                  obtain ⟨hbl9, y0, y1, y2⟩ := E.out _ hP
                  obtain ⟨gl, wh, wr1, gr, grn, grp, ga, gab⟩ := HQ.out hb
                  obtain ⟨z0, z1, z2⟩ := ER.out hb _ hP
                  simp only [hb] at hK ⊢
                  go_simp
                  exact hK _ _ _ rfl ⟨hP, hTr⟩ trivial ⟨fun _ => rfl, (fun h => by cases h)⟩
                · replace hb : q0 = false := by simpa using hb
                  replace p41 := p41.2 hb
                  replace p47 := p47.2 hb
                  replace p33 := p33.2 hb
                  simp only [p41, p47, p33] at hK ⊢
                  have P41 := Lib.hid p41; clear p41; have P47 := Lib.hid p47; clear p47; have P33 := Lib.hid p33; clear p33
                  simp only [hb] at hK ⊢
                  go_simp
                  exact hK _ undef _ rfl ⟨hP, hTr⟩ trivial ⟨(fun h => by cases h), fun _ => rfl⟩
              refine calmSteps_cons (fun u wq n9 hn hn2 hC hk K hK => ?_) ?_
              · obtain ⟨hP, hTr⟩ := hC
                clear hn hn2
                simp only [calmKnown, List.getElem?_cons_zero, List.getElem?_cons_succ, and_true, Is, Gd, Pure, Option.some.injEq, List.getD_cons_zero, List.getD_cons_succ, List.map_cons, List.map_nil] at hk
                obtain ⟨p48, p33⟩ := hk
                by_cases hb : q0 = true
                · skip
                  replace p48 := p48.1 hb
                  replace p33 := p33.1 hb
                  simp only [p48, p33] at hK ⊢
                  have P48 := Lib.hid p48; clear p48
                  have P33 := Lib.hid p33; clear p33
                  obtain ⟨hbl9, y0, y1, y2⟩ := E.out _ hP
                  obtain ⟨gl, wh, wr1, gr, grn, grp, ga, gab⟩ := HQ.out hb
                  obtain ⟨z0, z1, z2⟩ := ER.out hb _ hP
                  simp only [hb] at hK ⊢
                  go_simp
                  exact hK _ _ _ rfl ⟨hP, hTr⟩ trivial ⟨fun _ => rfl, (fun h => by cases h)⟩
                · replace hb : q0 = false := by simpa using hb
                  replace p48 := p48.2 hb
                  replace p33 := p33.2 hb
                  simp only [p48, p33] at hK ⊢
                  have P48 := Lib.hid p48; clear p48; have P33 := Lib.hid p33; clear p33
                  simp only [hb] at hK ⊢
                  go_simp
                  exact hK _ undef _ rfl ⟨hP, hTr⟩ trivial ⟨(fun h => by cases h), fun _ => rfl⟩
              refine calmSteps_cons (fun u wq n9 hn hn2 hC hk K hK => ?_) ?_
              · obtain ⟨hP, hTr⟩ := hC
                clear hn hn2
                simp only [calmKnown, List.getElem?_cons_zero, List.getElem?_cons_succ, and_true, Is, Gd, Pure, Option.some.injEq, List.getD_cons_zero, List.getD_cons_succ, List.map_cons, List.map_nil] at hk
                have p49 := hk; clear hk
                by_cases hb : ad = true
                · skip
                  have hb0 : q0 = true := (HAD.out hb).1
                  replace p49 := p49.1 hb0
                  simp only [p49] at hK ⊢
                  have P49 := Lib.hid p49; clear p49
                  obtain ⟨hbl9, y0, y1, y2⟩ := E.out _ hP
                  obtain ⟨gl, wh, wr1, gr, grn, grp, ga, gab⟩ := HQ.out hb0
                  obtain ⟨z0, z1, z2⟩ := ER.out hb0 _ hP
                  obtain ⟨-, gc, gcb⟩ := HAD.out hb
                  simp only [hb] at hK ⊢
                  go_simp
                  exact hK _ _ _ rfl ⟨hP, hTr⟩ trivial ⟨fun _ => rfl, (fun h => by cases h)⟩
                · replace hb : ad = false := by simpa using hb
                  by_cases hb0 : q0 = true
                  · skip
                    replace p49 := p49.1 hb0
                    simp only [p49] at hK ⊢
                    have P49 := Lib.hid p49; clear p49
                    try simp only [hb0] at hK ⊢
                    (try simp only [hb] at hK ⊢)
                    go_simp
                    exact hK _ undef _ rfl ⟨hP, hTr⟩ trivial ⟨(fun h => by cases h), fun _ => rfl⟩
                  · skip
                    replace hb0 : q0 = false := by simpa using hb0
                    replace p49 := p49.2 hb0
                    simp only [p49] at hK ⊢
                    have P49 := Lib.hid p49; clear p49
                    try simp only [hb0] at hK ⊢
                    (try simp only [hb] at hK ⊢)
                    go_simp
                    exact hK _ undef _ rfl ⟨hP, hTr⟩ trivial ⟨(fun h => by cases h), fun _ => rfl⟩
              refine calmSteps_cons (fun u wq n9 hn hn2 hC hk K hK => ?_) ?_
              · obtain ⟨hP, hTr⟩ := hC
                clear hn hn2
                simp only [calmKnown, List.getElem?_cons_zero, List.getElem?_cons_succ, and_true, Is, Gd, Pure, Option.some.injEq, List.getD_cons_zero, List.getD_cons_succ, List.map_cons, List.map_nil] at hk
                have p49 := hk; clear hk
                by_cases hb : ad = true
                · skip
                  have hb0 : q0 = true := (HAD.out hb).1
                  replace p49 := p49.1 hb0
                  simp only [p49] at hK ⊢
                  have P49 := Lib.hid p49; clear p49
                  obtain ⟨hbl9, y0, y1, y2⟩ := E.out _ hP
                  obtain ⟨gl, wh, wr1, gr, grn, grp, ga, gab⟩ := HQ.out hb0
                  obtain ⟨z0, z1, z2⟩ := ER.out hb0 _ hP
                  obtain ⟨-, gc, gcb⟩ := HAD.out hb
                  simp only [hb] at hK ⊢
                  go_simp
                  exact hK _ _ _ rfl ⟨hP, hTr⟩ trivial ⟨fun _ => rfl, (fun h => by cases h)⟩
                · replace hb : ad = false := by simpa using hb
                  by_cases hb0 : q0 = true
                  · skip
                    replace p49 := p49.1 hb0
                    simp only [p49] at hK ⊢
                    have P49 := Lib.hid p49; clear p49
                    try simp only [hb0] at hK ⊢
                    (try simp only [hb] at hK ⊢)
                    go_simp
                    exact hK _ undef _ rfl ⟨hP, hTr⟩ trivial ⟨(fun h => by cases h), fun _ => rfl⟩
                  · skip
                    replace hb0 : q0 = false := by simpa using hb0
                    replace p49 := p49.2 hb0
                    simp only [p49] at hK ⊢
                    have P49 := Lib.hid p49; clear p49
                    try simp only [hb0] at hK ⊢
                    (try simp only [hb] at hK ⊢)
                    go_simp
                    exact hK _ undef _ rfl ⟨hP, hTr⟩ trivial ⟨(fun h => by cases h), fun _ => rfl⟩
              refine calmSteps_cons (fun u wq n9 hn hn2 hC hk K hK => ?_) ?_
              · obtain ⟨hP, hTr⟩ := hC
                clear hn hn2
                simp only [calmKnown, List.getElem?_cons_zero, List.getElem?_cons_succ, and_true, Is, Gd, Pure, Option.some.injEq, List.getD_cons_zero, List.getD_cons_succ, List.map_cons, List.map_nil] at hk
                obtain ⟨p51, p49⟩ := hk
                by_cases hb : ad = true
                · skip
                  have hb0 : q0 = true := (HAD.out hb).1
                  replace p51 := p51.1 hb
                  replace p49 := p49.1 hb0
                  simp only [p51, p49] at hK ⊢
                  have P51 := Lib.hid p51; clear p51
                  have P49 := Lib.hid p49; clear p49
                  obtain ⟨hbl9, y0, y1, y2⟩ := E.out _ hP
                  obtain ⟨gl, wh, wr1, gr, grn, grp, ga, gab⟩ := HQ.out hb0
                  obtain ⟨z0, z1, z2⟩ := ER.out hb0 _ hP
                  obtain ⟨-, gc, gcb⟩ := HAD.out hb
                  simp only [hb] at hK ⊢
                  go_simp
                  exact hK _ _ _ rfl ⟨hP, hTr⟩ trivial ⟨fun _ => rfl, (fun h => by cases h)⟩
                · replace hb : ad = false := by simpa using hb
                  replace p51 := p51.2 hb
                  by_cases hb0 : q0 = true
                  · skip
                    replace p49 := p49.1 hb0
                    simp only [p51, p49] at hK ⊢
                    have P51 := Lib.hid p51; clear p51; have P49 := Lib.hid p49; clear p49
                    try simp only [hb0] at hK ⊢
                    (try simp only [hb] at hK ⊢)
                    go_simp
                    exact hK _ undef _ rfl ⟨hP, hTr⟩ trivial ⟨(fun h => by cases h), fun _ => rfl⟩
                  · skip
                    replace hb0 : q0 = false := by simpa using hb0
                    replace p49 := p49.2 hb0
                    simp only [p51, p49] at hK ⊢
                    have P51 := Lib.hid p51; clear p51; have P49 := Lib.hid p49; clear p49
                    try simp only [hb0] at hK ⊢
                    (try simp only [hb] at hK ⊢)
                    go_simp
                    exact hK _ undef _ rfl ⟨hP, hTr⟩ trivial ⟨(fun h => by cases h), fun _ => rfl⟩
              refine calmSteps_cons (fun u wq n9 hn hn2 hC hk K hK => ?_) ?_
              · obtain ⟨hP, hTr⟩ := hC
                clear hn hn2
                simp only [calmKnown, List.getElem?_cons_zero, List.getElem?_cons_succ, and_true, Is, Gd, Pure, Option.some.injEq, List.getD_cons_zero, List.getD_cons_succ, List.map_cons, List.map_nil] at hk
                obtain ⟨p50, p52, p49⟩ := hk
                by_cases hb : ad = true
                · skip
                  have hb0 : q0 = true := (HAD.out hb).1
                  replace p50 := p50.1 hb
                  replace p52 := p52.1 hb
                  replace p49 := p49.1 hb0
                  simp only [p50, p52, p49] at hK ⊢
                  have P50 := Lib.hid p50; clear p50
                  have P52 := Lib.hid p52; clear p52
                  have P49 := Lib.hid p49; clear p49
                  obtain ⟨hbl9, y0, y1, y2⟩ := E.out _ hP
                  obtain ⟨gl, wh, wr1, gr, grn, grp, ga, gab⟩ := HQ.out hb0
                  obtain ⟨z0, z1, z2⟩ := ER.out hb0 _ hP
                  obtain ⟨-, gc, gcb⟩ := HAD.out hb
                  simp only [hb] at hK ⊢
                  go_simp
                  exact hK _ _ _ rfl ⟨hP, hTr⟩ trivial ⟨fun _ => rfl, (fun h => by cases h)⟩
                · replace hb : ad = false := by simpa using hb
                  replace p50 := p50.2 hb
                  replace p52 := p52.2 hb
                  by_cases hb0 : q0 = true
                  · skip
                    replace p49 := p49.1 hb0
                    simp only [p50, p52, p49] at hK ⊢
                    have P50 := Lib.hid p50; clear p50; have P52 := Lib.hid p52; clear p52; have P49 := Lib.hid p49; clear p49
                    try simp only [hb0] at hK ⊢
                    (try simp only [hb] at hK ⊢)
                    go_simp
                    exact hK _ undef _ rfl ⟨hP, hTr⟩ trivial ⟨(fun h => by cases h), fun _ => rfl⟩
                  · skip
                    replace hb0 : q0 = false := by simpa using hb0
                    replace p49 := p49.2 hb0
                    simp only [p50, p52, p49] at hK ⊢
                    have P50 := Lib.hid p50; clear p50; have P52 := Lib.hid p52; clear p52; have P49 := Lib.hid p49; clear p49
                    try simp only [hb0] at hK ⊢
                    (try simp only [hb] at hK ⊢)
                    go_simp
                    exact hK _ undef _ rfl ⟨hP, hTr⟩ trivial ⟨(fun h => by cases h), fun _ => rfl⟩
              refine calmSteps_cons (fun u wq n9 hn hn2 hC hk K hK => ?_) ?_
              · obtain ⟨hP, hTr⟩ := hC
                clear hn hn2
                simp only [calmKnown, List.getElem?_cons_zero, List.getElem?_cons_succ, and_true, Is, Gd, Pure, Option.some.injEq, List.getD_cons_zero, List.getD_cons_succ, List.map_cons, List.map_nil] at hk
                obtain ⟨p53, p49⟩ := hk
                by_cases hb : ad = true
                · skip
                  have hb0 : q0 = true := (HAD.out hb).1
                  replace p53 := p53.1 hb
                  replace p49 := p49.1 hb0
                  simp only [p53, p49] at hK ⊢
                  have P53 := Lib.hid p53; clear p53
                  have P49 := Lib.hid p49; clear p49
                  obtain ⟨hbl9, y0, y1, y2⟩ := E.out _ hP
                  obtain ⟨gl, wh, wr1, gr, grn, grp, ga, gab⟩ := HQ.out hb0
                  obtain ⟨z0, z1, z2⟩ := ER.out hb0 _ hP
                  obtain ⟨-, gc, gcb⟩ := HAD.out hb
                  simp only [hb] at hK ⊢
                  go_simp
                  exact hK _ _ _ rfl ⟨hP, hTr⟩ trivial ⟨fun _ => rfl, (fun h => by cases h)⟩
                · replace hb : ad = false := by simpa using hb
                  replace p53 := p53.2 hb
                  by_cases hb0 : q0 = true
                  · skip
                    replace p49 := p49.1 hb0
                    simp only [p53, p49] at hK ⊢
                    have P53 := Lib.hid p53; clear p53; have P49 := Lib.hid p49; clear p49
                    try simp only [hb0] at hK ⊢
                    (try simp only [hb] at hK ⊢)
                    go_simp
                    exact hK _ undef _ rfl ⟨hP, hTr⟩ trivial ⟨(fun h => by cases h), fun _ => rfl⟩
                  · skip
                    replace hb0 : q0 = false := by simpa using hb0
                    replace p49 := p49.2 hb0
                    simp only [p53, p49] at hK ⊢
                    have P53 := Lib.hid p53; clear p53; have P49 := Lib.hid p49; clear p49
                    try simp only [hb0] at hK ⊢
                    (try simp only [hb] at hK ⊢)
                    go_simp
                    exact hK _ undef _ rfl ⟨hP, hTr⟩ trivial ⟨(fun h => by cases h), fun _ => rfl⟩
              refine calmSteps_cons (fun u wq n9 hn hn2 hC hk K hK => ?_) ?_
              · obtain ⟨hP, hTr⟩ := hC
                clear hn hn2
                simp only [calmKnown, List.getElem?_cons_zero, List.getElem?_cons_succ, and_true, Is, Gd, Pure, Option.some.injEq, List.getD_cons_zero, List.getD_cons_succ, List.map_cons, List.map_nil] at hk
                obtain ⟨p54, p49⟩ := hk
                by_cases hb : ad = true
                · skip
                  have hb0 : q0 = true := (HAD.out hb).1
                  replace p54 := p54.1 hb
                  replace p49 := p49.1 hb0
                  simp only [p54, p49] at hK ⊢
                  have P54 := Lib.hid p54; clear p54
                  have P49 := Lib.hid p49; clear p49
                  obtain ⟨hbl9, y0, y1, y2⟩ := E.out _ hP
                  obtain ⟨gl, wh, wr1, gr, grn, grp, ga, gab⟩ := HQ.out hb0
                  obtain ⟨z0, z1, z2⟩ := ER.out hb0 _ hP
                  obtain ⟨-, gc, gcb⟩ := HAD.out hb
                  simp only [hb] at hK ⊢
                  go_simp
                  exact hK _ _ _ rfl ⟨hP, hTr⟩ trivial ⟨fun _ => rfl, (fun h => by cases h)⟩
                · replace hb : ad = false := by simpa using hb
                  replace p54 := p54.2 hb
                  by_cases hb0 : q0 = true
                  · skip
                    replace p49 := p49.1 hb0
                    simp only [p54, p49] at hK ⊢
                    have P54 := Lib.hid p54; clear p54; have P49 := Lib.hid p49; clear p49
                    try simp only [hb0] at hK ⊢
                    (try simp only [hb] at hK ⊢)
                    go_simp
                    exact hK _ undef _ rfl ⟨hP, hTr⟩ trivial ⟨(fun h => by cases h), fun _ => rfl⟩
                  · skip
                    replace hb0 : q0 = false := by simpa using hb0
                    replace p49 := p49.2 hb0
                    simp only [p54, p49] at hK ⊢
                    have P54 := Lib.hid p54; clear p54; have P49 := Lib.hid p49; clear p49
                    try simp only [hb0] at hK ⊢
                    (try simp only [hb] at hK ⊢)
                    go_simp
                    exact hK _ undef _ rfl ⟨hP, hTr⟩ trivial ⟨(fun h => by cases h), fun _ => rfl⟩
              refine calmSteps_cons (fun u wq n9 hn hn2 hC hk K hK => ?_) ?_
              · obtain ⟨hP, hTr⟩ := hC
                clear hn hn2
                simp only [calmKnown, List.getElem?_cons_zero, List.getElem?_cons_succ, and_true, Is, Gd, Pure, Option.some.injEq, List.getD_cons_zero, List.getD_cons_succ, List.map_cons, List.map_nil] at hk
                have p49 := hk; clear hk
                by_cases hb : ad = true
                · skip
                  have hb0 : q0 = true := (HAD.out hb).1
                  replace p49 := p49.1 hb0
                  simp only [p49] at hK ⊢
                  have P49 := Lib.hid p49; clear p49
                  obtain ⟨hbl9, y0, y1, y2⟩ := E.out _ hP
                  obtain ⟨gl, wh, wr1, gr, grn, grp, ga, gab⟩ := HQ.out hb0
                  obtain ⟨z0, z1, z2⟩ := ER.out hb0 _ hP
                  obtain ⟨-, gc, gcb⟩ := HAD.out hb
                  simp only [hb] at hK ⊢
                  go_simp
                  exact hK _ _ _ rfl ⟨hP, hTr⟩ trivial ⟨fun _ => rfl, (fun h => by cases h)⟩
                · replace hb : ad = false := by simpa using hb
                  by_cases hb0 : q0 = true
                  · skip
                    replace p49 := p49.1 hb0
                    simp only [p49] at hK ⊢
                    have P49 := Lib.hid p49; clear p49
                    try simp only [hb0] at hK ⊢
                    (try simp only [hb] at hK ⊢)
                    go_simp
                    exact hK _ undef _ rfl ⟨hP, hTr⟩ trivial ⟨(fun h => by cases h), fun _ => rfl⟩
                  · skip
                    replace hb0 : q0 = false := by simpa using hb0
                    replace p49 := p49.2 hb0
                    simp only [p49] at hK ⊢
                    have P49 := Lib.hid p49; clear p49
                    try simp only [hb0] at hK ⊢
                    (try simp only [hb] at hK ⊢)
                    go_simp
                    exact hK _ undef _ rfl ⟨hP, hTr⟩ trivial ⟨(fun h => by cases h), fun _ => rfl⟩
              refine calmSteps_cons (fun u wq n9 hn hn2 hC hk K hK => ?_) ?_
              · obtain ⟨hP, hTr⟩ := hC
                clear hn hn2
                simp only [calmKnown, List.getElem?_cons_zero, List.getElem?_cons_succ, and_true, Is, Gd, Pure, Option.some.injEq, List.getD_cons_zero, List.getD_cons_succ, List.map_cons, List.map_nil] at hk
                have p49 := hk; clear hk
                by_cases hb : ad = true
                · skip
                  have hb0 : q0 = true := (HAD.out hb).1
                  replace p49 := p49.1 hb0
                  simp only [p49] at hK ⊢
                  have P49 := Lib.hid p49; clear p49
                  obtain ⟨hbl9, y0, y1, y2⟩ := E.out _ hP
                  obtain ⟨gl, wh, wr1, gr, grn, grp, ga, gab⟩ := HQ.out hb0
                  obtain ⟨z0, z1, z2⟩ := ER.out hb0 _ hP
                  obtain ⟨-, gc, gcb⟩ := HAD.out hb
                  simp only [hb] at hK ⊢
                  go_simp
                  exact hK _ _ _ rfl ⟨hP, hTr⟩ trivial ⟨fun _ => rfl, (fun h => by cases h)⟩
                · replace hb : ad = false := by simpa using hb
                  by_cases hb0 : q0 = true
                  · skip
                    replace p49 := p49.1 hb0
                    simp only [p49] at hK ⊢
                    have P49 := Lib.hid p49; clear p49
                    try simp only [hb0] at hK ⊢
                    (try simp only [hb] at hK ⊢)
                    go_simp
                    exact hK _ undef _ rfl ⟨hP, hTr⟩ trivial ⟨(fun h => by cases h), fun _ => rfl⟩
                  · skip
                    replace hb0 : q0 = false := by simpa using hb0
                    replace p49 := p49.2 hb0
                    simp only [p49] at hK ⊢
                    have P49 := Lib.hid p49; clear p49
                    try simp only [hb0] at hK ⊢
                    (try simp only [hb] at hK ⊢)
                    go_simp
                    exact hK _ undef _ rfl ⟨hP, hTr⟩ trivial ⟨(fun h => by cases h), fun _ => rfl⟩
              refine calmSteps_cons (fun u wq n9 hn hn2 hC hk K hK => ?_) ?_
              · obtain ⟨hP, hTr⟩ := hC
                clear hn hn2
                simp only [calmKnown, List.getElem?_cons_zero, List.getElem?_cons_succ, and_true, Is, Gd, Pure, Option.some.injEq, List.getD_cons_zero, List.getD_cons_succ, List.map_cons, List.map_nil] at hk
                obtain ⟨p56, p57, p49⟩ := hk
                by_cases hb : ad = true
                · skip
                  have hb0 : q0 = true := (HAD.out hb).1
                  replace p56 := p56.1 hb
                  replace p57 := p57.1 hb
                  replace p49 := p49.1 hb0
                  simp only [p56, p57, p49] at hK ⊢
                  have P56 := Lib.hid p56; clear p56
                  have P57 := Lib.hid p57; clear p57
                  have P49 := Lib.hid p49; clear p49
                  obtain ⟨hbl9, y0, y1, y2⟩ := E.out _ hP
                  obtain ⟨gl, wh, wr1, gr, grn, grp, ga, gab⟩ := HQ.out hb0
                  obtain ⟨z0, z1, z2⟩ := ER.out hb0 _ hP
                  obtain ⟨-, gc, gcb⟩ := HAD.out hb
                  simp only [hb] at hK ⊢
                  go_simp
                  exact hK _ _ _ rfl ⟨hP, hTr⟩ trivial ⟨fun _ => rfl, (fun h => by cases h)⟩
                · replace hb : ad = false := by simpa using hb
                  replace p56 := p56.2 hb
                  replace p57 := p57.2 hb
                  by_cases hb0 : q0 = true
                  · skip
                    replace p49 := p49.1 hb0
                    simp only [p56, p57, p49] at hK ⊢
                    have P56 := Lib.hid p56; clear p56; have P57 := Lib.hid p57; clear p57; have P49 := Lib.hid p49; clear p49
                    try simp only [hb0] at hK ⊢
                    (try simp only [hb] at hK ⊢)
                    go_simp
                    exact hK _ undef _ rfl ⟨hP, hTr⟩ trivial ⟨(fun h => by cases h), fun _ => rfl⟩
                  · skip
                    replace hb0 : q0 = false := by simpa using hb0
                    replace p49 := p49.2 hb0
                    simp only [p56, p57, p49] at hK ⊢
                    have P56 := Lib.hid p56; clear p56; have P57 := Lib.hid p57; clear p57; have P49 := Lib.hid p49; clear p49
                    try simp only [hb0] at hK ⊢
                    (try simp only [hb] at hK ⊢)
                    go_simp
                    exact hK _ undef _ rfl ⟨hP, hTr⟩ trivial ⟨(fun h => by cases h), fun _ => rfl⟩
              refine calmSteps_cons (fun u wq n9 hn hn2 hC hk K hK => ?_) ?_
              · obtain ⟨hP, hTr⟩ := hC
                clear hn hn2
                simp only [calmKnown, List.getElem?_cons_zero, List.getElem?_cons_succ, and_true, Is, Gd, Pure, Option.some.injEq, List.getD_cons_zero, List.getD_cons_succ, List.map_cons, List.map_nil] at hk
                obtain ⟨p58, p49⟩ := hk
                by_cases hb : ad = true
                · skip
                  have hb0 : q0 = true := (HAD.out hb).1
                  replace p58 := p58.1 hb
                  replace p49 := p49.1 hb0
                  simp only [p58, p49] at hK ⊢
                  have P58 := Lib.hid p58; clear p58
                  have P49 := Lib.hid p49; clear p49
                  obtain ⟨hbl9, y0, y1, y2⟩ := E.out _ hP
                  obtain ⟨gl, wh, wr1, gr, grn, grp, ga, gab⟩ := HQ.out hb0
                  obtain ⟨z0, z1, z2⟩ := ER.out hb0 _ hP
                  obtain ⟨-, gc, gcb⟩ := HAD.out hb
                  simp only [hb] at hK ⊢
                  go_simp
                  exact hK _ _ _ rfl ⟨hP, hTr⟩ trivial ⟨fun _ => rfl, (fun h => by cases h)⟩
                · replace hb : ad = false := by simpa using hb
                  replace p58 := p58.2 hb
                  by_cases hb0 : q0 = true
                  · skip
                    replace p49 := p49.1 hb0
                    simp only [p58, p49] at hK ⊢
                    have P58 := Lib.hid p58; clear p58; have P49 := Lib.hid p49; clear p49
                    try simp only [hb0] at hK ⊢
                    (try simp only [hb] at hK ⊢)
                    go_simp
                    exact hK _ undef _ rfl ⟨hP, hTr⟩ trivial ⟨(fun h => by cases h), fun _ => rfl⟩
                  · skip
                    replace hb0 : q0 = false := by simpa using hb0
                    replace p49 := p49.2 hb0
                    simp only [p58, p49] at hK ⊢
                    have P58 := Lib.hid p58; clear p58; have P49 := Lib.hid p49; clear p49
                    try simp only [hb0] at hK ⊢
                    (try simp only [hb] at hK ⊢)
                    go_simp
                    exact hK _ undef _ rfl ⟨hP, hTr⟩ trivial ⟨(fun h => by cases h), fun _ => rfl⟩
              refine calmSteps_cons (fun u wq n9 hn hn2 hC hk K hK => ?_) ?_
              · obtain ⟨hP, hTr⟩ := hC
                clear hn hn2
                simp only [calmKnown, List.getElem?_cons_zero, List.getElem?_cons_succ, and_true, Is, Gd, Pure, Option.some.injEq, List.getD_cons_zero, List.getD_cons_succ, List.map_cons, List.map_nil] at hk
                obtain ⟨p59, p49⟩ := hk
                by_cases hb : ad = true
                · skip
                  have hb0 : q0 = true := (HAD.out hb).1
                  replace p59 := p59.1 hb
                  replace p49 := p49.1 hb0
                  simp only [p59, p49] at hK ⊢
                  have P59 := Lib.hid p59; clear p59
                  have P49 := Lib.hid p49; clear p49
                  obtain ⟨hbl9, y0, y1, y2⟩ := E.out _ hP
                  obtain ⟨gl, wh, wr1, gr, grn, grp, ga, gab⟩ := HQ.out hb0
                  obtain ⟨z0, z1, z2⟩ := ER.out hb0 _ hP
                  obtain ⟨-, gc, gcb⟩ := HAD.out hb
                  simp only [hb] at hK ⊢
                  go_simp
                  exact hK _ _ _ rfl ⟨hP, hTr⟩ trivial ⟨fun _ => rfl, (fun h => by cases h)⟩
                · replace hb : ad = false := by simpa using hb
                  replace p59 := p59.2 hb
                  by_cases hb0 : q0 = true
                  · skip
                    replace p49 := p49.1 hb0
                    simp only [p59, p49] at hK ⊢
                    have P59 := Lib.hid p59; clear p59; have P49 := Lib.hid p49; clear p49
                    try simp only [hb0] at hK ⊢
                    (try simp only [hb] at hK ⊢)
                    go_simp
                    exact hK _ undef _ rfl ⟨hP, hTr⟩ trivial ⟨(fun h => by cases h), fun _ => rfl⟩
                  · skip
                    replace hb0 : q0 = false := by simpa using hb0
                    replace p49 := p49.2 hb0
                    simp only [p59, p49] at hK ⊢
                    have P59 := Lib.hid p59; clear p59; have P49 := Lib.hid p49; clear p49
                    try simp only [hb0] at hK ⊢
                    (try simp only [hb] at hK ⊢)
                    go_simp
                    exact hK _ undef _ rfl ⟨hP, hTr⟩ trivial ⟨(fun h => by cases h), fun _ => rfl⟩
              refine calmSteps_cons (fun u wq n9 hn hn2 hC hk K hK => ?_) ?_
              · obtain ⟨hP, hTr⟩ := hC
                clear hn hn2
                simp only [calmKnown, List.getElem?_cons_zero, List.getElem?_cons_succ, and_true, Is, Gd, Pure, Option.some.injEq, List.getD_cons_zero, List.getD_cons_succ, List.map_cons, List.map_nil] at hk
                obtain ⟨p55, p60, p49⟩ := hk
                by_cases hb : ad = true
                · skip
                  have hb0 : q0 = true := (HAD.out hb).1
                  replace p55 := p55.1 hb
                  replace p60 := p60.1 hb
                  replace p49 := p49.1 hb0
                  simp only [p55, p60, p49] at hK ⊢
                  have P55 := Lib.hid p55; clear p55
                  have P60 := Lib.hid p60; clear p60
                  have P49 := Lib.hid p49; clear p49
                  obtain ⟨hbl9, y0, y1, y2⟩ := E.out _ hP
                  obtain ⟨gl, wh, wr1, gr, grn, grp, ga, gab⟩ := HQ.out hb0
                  obtain ⟨z0, z1, z2⟩ := ER.out hb0 _ hP
                  obtain ⟨-, gc, gcb⟩ := HAD.out hb
                  simp only [hb] at hK ⊢
                  go_simp
                  exact hK _ _ _ rfl ⟨hP, hTr⟩ trivial ⟨fun _ => rfl, (fun h => by cases h)⟩
                · replace hb : ad = false := by simpa using hb
                  replace p55 := p55.2 hb
                  replace p60 := p60.2 hb
                  by_cases hb0 : q0 = true
                  · skip
                    replace p49 := p49.1 hb0
                    simp only [p55, p60, p49] at hK ⊢
                    have P55 := Lib.hid p55; clear p55; have P60 := Lib.hid p60; clear p60; have P49 := Lib.hid p49; clear p49
                    try simp only [hb0] at hK ⊢
                    (try simp only [hb] at hK ⊢)
                    go_simp
                    exact hK _ undef _ rfl ⟨hP, hTr⟩ trivial ⟨(fun h => by cases h), fun _ => rfl⟩
                  · skip
                    replace hb0 : q0 = false := by simpa using hb0
                    replace p49 := p49.2 hb0
                    simp only [p55, p60, p49] at hK ⊢
                    have P55 := Lib.hid p55; clear p55; have P60 := Lib.hid p60; clear p60; have P49 := Lib.hid p49; clear p49
                    try simp only [hb0] at hK ⊢
                    (try simp only [hb] at hK ⊢)
                    go_simp
                    exact hK _ undef _ rfl ⟨hP, hTr⟩ trivial ⟨(fun h => by cases h), fun _ => rfl⟩
              refine calmSteps_cons (fun u wq n9 hn hn2 hC hk K hK => ?_) ?_
              · obtain ⟨hP, hTr⟩ := hC
                clear hn hn2
                simp only [calmKnown, List.getElem?_cons_zero, List.getElem?_cons_succ, and_true, Is, Gd, Pure, Option.some.injEq, List.getD_cons_zero, List.getD_cons_succ, List.map_cons, List.map_nil] at hk
                obtain ⟨p49, p61, p33⟩ := hk
                by_cases hb : q0 = true
                · replace p33 := p33.1 hb; replace p49 := p49.1 hb
                  simp only [p33, p49] at hK ⊢
                  have P33 := Lib.hid p33; have P49 := Lib.hid p49; clear p33 p49
                  by_cases hb2 : ad = true
                  · replace p61 := p61.1 hb2
                    simp only [p61] at hK ⊢
                    have P61 := Lib.hid p61; clear p61
                    (try simp only [hb2] at hK ⊢)
                    (try simp only [hb] at hK ⊢)
                    go_simp
                    exact hK _ _ _ rfl ⟨hP, hTr⟩ trivial ⟨fun _ => rfl, (fun h => by cases h)⟩
                  · replace hb2 : ad = false := by simpa using hb2
                    clear p61
                    (try simp only [hb2] at hK ⊢)
                    (try simp only [hb] at hK ⊢)
                    go_simp
                    exact hK _ _ _ rfl ⟨hP, hTr⟩ trivial ⟨fun _ => rfl, (fun h => by cases h)⟩
                · replace hb : q0 = false := by simpa using hb
                  replace p33 := p33.2 hb; replace p49 := p49.2 hb
                  simp only [p33, p49] at hK ⊢
                  have P33 := Lib.hid p33; have P49 := Lib.hid p49; clear p33 p49 p61
                  simp only [hb] at hK ⊢
                  go_simp
                  exact hK _ undef _ rfl ⟨hP, hTr⟩ trivial ⟨(fun h => by cases h), fun _ => rfl⟩
              refine calmSteps_cons (fun u wq n9 hn hn2 hC hk K hK => ?_) ?_
              · obtain ⟨hP, hTr⟩ := hC
                clear hn hn2
                simp only [calmKnown, List.getElem?_cons_zero, List.getElem?_cons_succ, and_true, Is, Gd, Pure, Option.some.injEq, List.getD_cons_zero, List.getD_cons_succ, List.map_cons, List.map_nil] at hk
                obtain ⟨p33, p62, h18⟩ := hk
                simp only [h18] at hK ⊢
                have H18 := Lib.hid h18; clear h18
                by_cases hb : q0 = true
                · skip
                  replace p33 := p33.1 hb
                  replace p62 := p62.1 hb
                  simp only [p33, p62] at hK ⊢
                  have P33 := Lib.hid p33; clear p33
                  have P62 := Lib.hid p62; clear p62
                  simp only [hb] at hK ⊢
                  go_simp
                  exact hK _ _ _ rfl ⟨hP, hTr⟩ trivial ⟨fun _ => rfl, (fun h => by cases h)⟩
                · replace hb : q0 = false := by simpa using hb
                  replace p33 := p33.2 hb
                  replace p62 := p62.2 hb
                  simp only [p33, p62] at hK ⊢
                  have P33 := Lib.hid p33; clear p33; have P62 := Lib.hid p62; clear p62
                  simp only [hb] at hK ⊢
                  go_simp
                  exact hK _ undef _ rfl ⟨hP, hTr⟩ trivial ⟨(fun h => by cases h), fun _ => rfl⟩
              refine calmSteps_cons (fun u wq n9 hn hn2 hC hk K hK => ?_) ?_
              · obtain ⟨hP, hTr⟩ := hC
                clear hn hn2
                simp only [calmKnown, List.getElem?_cons_zero, List.getElem?_cons_succ, and_true, Is, Gd, Pure, Option.some.injEq, List.getD_cons_zero, List.getD_cons_succ, List.map_cons, List.map_nil] at hk
                obtain ⟨h18, p63, h15⟩ := hk
                simp only [h18, h15] at hK ⊢
                have H18 := Lib.hid h18; clear h18; have H15 := Lib.hid h15; clear h15
                by_cases hb : q0 = true
                · replace p63 := p63.1 hb
                  simp only [p63] at hK ⊢
                  have P63 := Lib.hid p63; clear p63
                  (try simp only [hb] at hK ⊢)
                  go_simp
                  exact hK _ _ _ rfl ⟨hP, hTr⟩ trivial rfl
                · clear p63
                  replace hb : q0 = false := by simpa using hb
                  (try simp only [hb] at hK ⊢)
                  go_simp
                  exact hK _ _ _ rfl ⟨hP, hTr⟩ trivial (rfl)
              refine calmSteps_cons (fun u wq n9 hn hn2 hC hk K hK => ?_) ?_
              · obtain ⟨hP, hTr⟩ := hC
                clear hn hn2
                simp only [calmKnown, List.getElem?_cons_zero, List.getElem?_cons_succ, and_true, Is, Gd, Pure, Option.some.injEq, List.getD_cons_zero, List.getD_cons_succ, List.map_cons, List.map_nil] at hk
                obtain ⟨h15, h64⟩ := hk
                simp only [h15, h64] at hK ⊢
                have H15 := Lib.hid h15; clear h15; have H64 := Lib.hid h64; clear h64
                go_simp
                exact hK _ _ _ rfl ⟨hP, hTr⟩ trivial rfl
              exact calmSteps_nil
            · intro u wz hC hF
              obtain ⟨hP, hTr⟩ := hC
              simp only [calmFacts, Is, Gd, and_true, true_and] at hF
              obtain ⟨f0, f1, f2, f3, f4, f5, f6, f7, f8, f9, f10, f11, f12, f13, f14, f15, f16, f17, f18, f19, f20, f21, f22, f23, f24, f25, f26, f27, f28, f29, f30, f31, f32, f33, f34, f35, f36, f37, f38, f39, f40, f41, f42, f43, f44, f45, f46, f47, f48, f49, f50, f51, f52, f53, f54, f55, f56, f57, f58, f59, f60, f61, f62, f63, f64, f65⟩ := hF
              simp only [f65]
              clear f0 f1 f2 f3 f4 f5 f6 f7 f8 f9 f10 f11 f12 f13 f14 f15 f16 f17 f18 f19 f20 f21 f22 f23 f24 f25 f26 f27 f28 f29 f30 f31 f32 f33 f34 f35 f36 f37 f38 f39 f40 f41 f42 f43 f44 f45 f46 f47 f48 f49 f50 f51 f52 f53 f54 f55 f56 f57 f58 f59 f60 f61 f62 f63 f64 f65
              have Zz := hP.size
              replace HK := Lib.hid (HK.out.below hP)
              replace HS := Lib.hid (HS.out.below hP)
              replace HP := Lib.hid (HP.out.below hP)
              replace HRP := Lib.hid (HRP.out.below hP)
              clear hP hTr
              go_wp2
              go_roundg (ps.length - (p + 1))
              case measure => omega
              case rel => exact ⟨p + 1, by omega, by omega, by go_num, HRP.out.below (by (repeat' (first | (with_reducible exact Below.refl _ _) | (with_reducible refine Below.setCell ?_ ?_ _) | (with_reducible refine Below.alloc ?_ ?_ _) | (with_reducible refine Below.drew ?_) | (with_reducible refine below_drewN ?_ _))) <;> (first | omega | (simp <;> omega)))⟩
        · obtain rfl : p = ps.length := by omega
          have gp : decide ((ps.length : Int) < (ps.length : Int)) = false := decide_eq_false (by omega)
          clear HRP
          go_wp2_with fail
          refine (known34_any _).mono ?_
          rintro e w41 ⟨rfl, hb41⟩
          have S41 : Below wr.heap.size wr w41 := kept_call hb41 (by (repeat' (first | (with_reducible exact Below.refl _ _) | (with_reducible refine Below.setCell ?_ ?_ _) | (with_reducible refine Below.alloc ?_ ?_ _) | (with_reducible refine Below.drew ?_) | (with_reducible refine below_drewN ?_ _))) <;> (first | omega | (simp <;> omega)))
          have Z41 := S41.size
          replace HK := Lib.hid (HK.out.below S41)
          replace HS := Lib.hid (HS.out.below S41)
          replace HP := Lib.hid (HP.out.below S41)
          clear hb41 S41
          go_wp2
          go_ret
          exact ⟨rfl, HK.out.below (by (repeat' (first | (with_reducible exact Below.refl _ _) | (with_reducible refine Below.setCell ?_ ?_ _) | (with_reducible refine Below.alloc ?_ ?_ _) | (with_reducible refine Below.drew ?_) | (with_reducible refine below_drewN ?_ _))) <;> (first | omega | (simp <;> omega)))⟩
theorem inst_row (A : Option Addr) (len cap : Nat) (zs : List Int) {w : World} (k : IntsAt w A len zs) (W : World) (hw : W = w) :
    Walked 7 #[.slice A len cap] W := by
  subst hw; exact inst_walk A len cap zs W k
end Go.Proofs.Ytlfkkfdolnkjfaa
