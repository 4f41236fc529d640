/- The walk of CertifiedMergesTruth. -/
import Derived.Test.YtlfkkfdolnkjfaaCalmP
import Derived.Test.YtlfkkfdolnkjfaaJ25
import Derived.Test.YtlfkkfdolnkjfaaLawCert
import Derived.Test.YtlfkkfdolnkjfaaJ39
import Derived.Test.YtlfkkfdolnkjfaaSpans
import Derived.Test.YtlfkkfdolnkjfaaTapeB
namespace Go.Proofs.Ytlfkkfdolnkjfaa
open Go.RowKit Go.Shelf Go.Sort
set_option linter.unusedSimpArgs false
set_option linter.unusedVariables false

theorem TapeAt.b2 {w w' : World} {b : Nat} (h : TapeAt w b) (hb : Below w.heap.size w w') : TapeAt w' b := h.below hb
def MkRel (w : World) (b n : Nat) (f : Int) (v i : Value) (G : Nat) (wr : World) : Prop := ∃ (q : Nat) (A : Option Addr) (c : Nat) (ks : List K6), q ≤ n ∧ G = n - q ∧ i = .int .i64 q ∧ v = .slice A ks.length c ∧ ks.length = q ∧ RowK wr (w.heap.size + 1) (.slice A ks.length c) ks ∧ (∀ k ∈ ks, KOk k) ∧ (q : Int) - f ≤ cntS (ks.map (spK 70000)) 100000 ∧ TapeAt wr b ∧ Below w.heap.size w wr
set_option maxRecDepth 100000 in
set_option maxHeartbeats 4000000 in
theorem merges_walk (LA : Option Addr) (llen lcap : Nat) (ls : List Int) (w : World) (k : IntsAt w LA llen ls) :
    Calls Try.prog 11 #[.slice LA llen lcap] w (RB w (.bool true)) := by
  have HK := Lib.hid (show Kp w w from Below.refl _ _)
  have HLI := Lib.hid k; clear k
  have hroot : w.heap.size < w.heap.size + 1 := Nat.lt_succ_self _
  go_enter Try.func11, Try.ntmps11
  go_wp2_with fail
  refine (new_any LA llen lcap ls _ HLI.out).mono ?_
  rintro e w1 ⟨rfl, ht1, hb1⟩
  have Z1 := hb1.size
  have T1 := ht1.lt
  replace HK := Lib.hid (HK.out.below hb1)
  clear hb1 HLI
  obtain ⟨b, hb⟩ : ∃ b, b = w.heap.size := ⟨_, rfl⟩
  have hbw : w.heap.size ≤ b := by omega
  have hbw2 : b < w.heap.size + 1 := by omega
  rw [← hb] at ht1 T1 ⊢
  clear hb
  have HT := Lib.hid ht1; clear ht1
  go_wp2_with fail
  refine (int_any b 9 _ (HT.out.below (by (repeat' (first | (with_reducible exact Below.refl _ _) | (with_reducible refine Below.setCell ?_ ?_ _) | (with_reducible refine Below.alloc ?_ ?_ _) | (with_reducible refine Below.drew ?_) | (with_reducible refine below_drewN ?_ _))) <;> (first | omega | (simp <;> omega)))) (by omega) (by omega)).mono ?_
  rintro e w2 ⟨kv, rfl, kv0, kv1, ht2, hg2⟩
  have Z2 := Nat.le_trans (show w1.heap.size ≤ _ from Below.size (show Below w1.heap.size w1 _ from (by (repeat' (first | (with_reducible exact Below.refl _ _) | (with_reducible refine Below.setCell ?_ ?_ _) | (with_reducible refine Below.alloc ?_ ?_ _) | (with_reducible refine Below.drew ?_) | (with_reducible refine below_drewN ?_ _))) <;> (first | omega | (simp <;> omega))))) hg2.size
  replace HK := Lib.hid ((HK.out.below (by (repeat' (first | (with_reducible exact Below.refl _ _) | (with_reducible refine Below.setCell ?_ ?_ _) | (with_reducible refine Below.alloc ?_ ?_ _) | (with_reducible refine Below.drew ?_) | (with_reducible refine below_drewN ?_ _))) <;> (first | omega | (simp <;> omega)))).tap hg2 (by omega))
  replace HT := Lib.hid ht2
  clear ht2
  clear hg2
  obtain ⟨k, hk⟩ : ∃ k : Nat, 1 + kv = (k : Int) := ⟨(1 + kv).toNat, by omega⟩
  have k0 : 1 ≤ k := by omega
  have k1 : k ≤ 9 := by omega
  have wk : IntKind.i64.wrap (1 + kv) = (k : Int) := by rw [IntWalk.i64_in _ (by omega)]; exact hk
  obtain ⟨hv, hhv⟩ : ∃ hv, ((k : Int) + 1).tdiv 2 = hv := ⟨_, rfl⟩
  have hv2 : hv = ((k : Int) + 1) / 2 := by rw [← hhv, Int.tdiv_eq_ediv_of_nonneg (by omega)]
  have hv0 : 1 ≤ hv := by omega
  have hv1 : 2 * hv ≤ (k : Int) + 1 := by omega
  have wk1 : IntKind.i64.wrap ((k : Int) + 1) = (k : Int) + 1 := IntWalk.i64_in _ (by omega)
  have wk2 : IntKind.i64.wrap hv = hv := IntWalk.i64_in _ (by omega)
  clear hv2
  have HKV := Lib.hid hk; clear hk
  go_wp2_with fail
  refine (int_any b hv _ (HT.out.below (by (repeat' (first | (with_reducible exact Below.refl _ _) | (with_reducible refine Below.setCell ?_ ?_ _) | (with_reducible refine Below.alloc ?_ ?_ _) | (with_reducible refine Below.drew ?_) | (with_reducible refine below_drewN ?_ _))) <;> (first | omega | (simp <;> omega)))) (by omega) (by omega)).mono ?_
  rintro e w3 ⟨f, rfl, f0, f1, ht3, hg3⟩
  have Z3 := Nat.le_trans (show w2.heap.size ≤ _ from Below.size (show Below w2.heap.size w2 _ from (by (repeat' (first | (with_reducible exact Below.refl _ _) | (with_reducible refine Below.setCell ?_ ?_ _) | (with_reducible refine Below.alloc ?_ ?_ _) | (with_reducible refine Below.drew ?_) | (with_reducible refine below_drewN ?_ _))) <;> (first | omega | (simp <;> omega))))) hg3.size
  replace HK := Lib.hid ((HK.out.below (by (repeat' (first | (with_reducible exact Below.refl _ _) | (with_reducible refine Below.setCell ?_ ?_ _) | (with_reducible refine Below.alloc ?_ ?_ _) | (with_reducible refine Below.drew ?_) | (with_reducible refine below_drewN ?_ _))) <;> (first | omega | (simp <;> omega)))).tap hg3 (by omega))
  replace HT := Lib.hid ht3
  clear ht3
  clear hg3
  clear wk wk1 wk2 hhv kv0 kv1
  have hfk : 2 * f < (k : Int) := by omega
  clear hv0 hv1 f1
  go_wp2
  obtain ⟨w9, rfl⟩ : ∃ x : World, x = w3 := ⟨_, rfl⟩
  go_loopg [6, 7] k (fun G v i wr => MkRel w b k f v i G wr)
  case atStart => exact ⟨0, none, 0, [], by omega, by omega, rfl, rfl, rfl, RowK.nil, by simp, by simp [cntS]; omega, HT.out, HK.out.b⟩
  case round =>
    obtain ⟨q, A0, c0, ks, hq, rfl, rfl, rfl, hkl, hrow, hok, hcnt, htr, KR⟩ := hrel
    have ZR := KR.size
    clear HK HT
    have HK := Lib.hid (show Kp w wr from KR); have HT := Lib.hid htr; have HRW := Lib.hid hrow; have HOK := Lib.hid hok; have HCN := Lib.hid hcnt
    have TR := htr.lt
    have hrl := RowK.lt hrow
    have hk9 : ks.length ≤ 9 := by omega
    have HKL := Lib.hid hkl
    clear KR htr hrow hok hcnt hkl
    by_cases hlt : q < k
    · have gq : decide ((q : Int) < (k : Int)) = true := decide_eq_true (by omega)
      have gqn : decide (q < k) = true := decide_eq_true hlt
      have wq : IntKind.i64.wrap ((q : Int) + 1) = ((q + 1 : Nat) : Int) := by rw [IntWalk.i64_in _ (by omega)]; omega
      have hXl : ∀ kk, (Value.slice A0 ks.length c0).ownBlock = some kk → w.heap.size + 1 ≤ kk ∧ kk < wr.heap.size := hrl
      generalize hX : (Value.slice A0 ks.length c0).ownBlock = X at hXl
      have HXX := Lib.hid hX; clear hX hrl
      go_wp2_with fail
      refine (int_any b 60000 _ (HT.out.below (by (repeat' (first | (with_reducible exact Below.refl _ _) | (with_reducible refine Below.setCell ?_ ?_ _) | (with_reducible refine Below.alloc ?_ ?_ _) | (with_reducible refine Below.drew ?_) | (with_reducible refine below_drewN ?_ _))) <;> (first | omega | (simp <;> omega)))) (by omega) (by omega)).mono ?_
      rintro e w4 ⟨d, rfl, d0, d1, ht4, hg4⟩
      have Z4 := Nat.le_trans (show wr.heap.size ≤ _ from Below.size (show Below wr.heap.size wr _ from (by (repeat' (first | (with_reducible exact Below.refl _ _) | (with_reducible refine Below.setCell ?_ ?_ _) | (with_reducible refine Below.alloc ?_ ?_ _) | (with_reducible refine Below.drew ?_) | (with_reducible refine below_drewN ?_ _))) <;> (first | omega | (simp <;> omega))))) hg4.size
      replace HK := Lib.hid ((HK.out.below (by (repeat' (first | (with_reducible exact Below.refl _ _) | (with_reducible refine Below.setCell ?_ ?_ _) | (with_reducible refine Below.alloc ?_ ?_ _) | (with_reducible refine Below.drew ?_) | (with_reducible refine below_drewN ?_ _))) <;> (first | omega | (simp <;> omega)))).tap hg4 (by omega))
      replace HRW := Lib.hid ((HRW.out.below (by (repeat' (first | (with_reducible exact Below.refl _ _) | (with_reducible refine Below.setCell ?_ ?_ _) | (with_reducible refine Below.alloc ?_ ?_ _) | (with_reducible refine Below.drew ?_) | (with_reducible refine below_drewN ?_ _))) <;> (first | omega | (simp <;> omega)))).tap hg4 (by omega))
      replace HT := Lib.hid ht4
      clear ht4
      clear hg4
      obtain ⟨el, hel⟩ : ∃ el, elLo d 100000 = el := ⟨_, rfl⟩
      obtain ⟨eh, heh⟩ : ∃ eh, elHi d 100000 = eh := ⟨_, rfl⟩
      have l0 := lo_pos d0 (show (0 : Int) ≤ 100000 by decide) (by decide)
      have l1 := lo_le d0 (show (0 : Int) ≤ 100000 by decide) (by decide)
      have l2 := le_hi d0 (show (0 : Int) ≤ 100000 by decide) (by decide)
      have l3 := hi_two d0 (show (0 : Int) ≤ 100000 by decide) (by decide)
      rw [hel] at l0 l1
      rw [heh] at l2 l3
      have RE := Lib.hid (fun W => (outV_ok (inD_el d0 d1)) ▸ relapsed_any d 100000 W)
      rw [hel, heh] at RE
      have HEL := Lib.hid hel; have HEH := Lib.hid heh; clear hel heh
      have hvs : vS el eh = true := vS_true.2 (by omega)
      have hwid : wid el eh = eh - el := by unfold wid; rw [if_pos hvs]
      have RWD := Lib.hid (fun W => hwid ▸ rwidth_any el eh W)
      clear hvs hwid
      have ws : IntKind.i64.wrap (100000 - el) = 100000 - el := IntWalk.i64_in _ (by omega)
      have ww : IntKind.i64.wrap (eh - el + 1) = eh - el + 1 := IntWalk.i64_in _ (by omega)
      go_upto_region 9 with fail
      go_cut [9] (fun v wx => ∃ g9, w4.heap.size ≤ g9 ∧ v = .pointer (some ⟨g9, 0, none⟩) ∧ Blk wx g9 35 #[.int .i64 el, .int .i64 eh] ∧ Below w4.heap.size w4 wx)
      case first =>
        go_wp2_with fail
        refine (RE.out _).mono ?_
        rintro e wy ⟨rfl, hby⟩
        have ZY := hby.size
        go_wp2_with fail
        go_meet
        exact ⟨wy.heap.size, hby.size, rfl, (by first | exact Blk.new _ _ _ | exact setAll_blk [.int .i64 el, .int .i64 eh] 0 _ #[.int .i64 0, .int .i64 0] (Blk.new _ _ _)), kept_call (by (repeat' (first | (with_reducible exact Below.refl _ _) | (with_reducible refine Below.setCell ?_ ?_ _) | (with_reducible refine Below.alloc ?_ ?_ _) | (with_reducible refine Below.drew ?_) | (with_reducible refine below_drewN ?_ _))) <;> (first | omega | (simp <;> omega))) (kept_call hby (Below.refl _ _))⟩
      case rest =>
        obtain ⟨g9, hg9, rfl, be, KC⟩ := hcut
        have ZC := KC.size
        have le9 := be.lt
        have hg9b : b < g9 := by omega
        have hg9w : w.heap.size < g9 := by omega
        replace HK := Lib.hid (HK.out.below KC)
        replace HT := Lib.hid (HT.out.below KC)
        replace HRW := Lib.hid (HRW.out.below KC)
        have HE := Lib.hid be
        clear be KC hg9
        obtain ⟨w12, rfl⟩ : ∃ x : World, x = wc := ⟨_, rfl⟩
        go_wp2_with fail
        refine' wp_region_calm (by kernel_rfl) (fun _ _ w' => TapeAt w' b ∧ Past [b] w12 w') (Past [b]) [(Is _), (Is _), (Is _), (Is _), (Is _), (Is _), (Is _), (InR 0 (eh - el + 1)), (InR (100000 - eh) (100000 - el + 1)), (InR (100000 - eh) (100000 - el + 1))] [[], [0], [1], [], [], [4], [5], [3, 6], [2, 7], [8]] [] [] rfl (by kernel_rfl) (fun u => by (simp only [calmPut, Act.put, List.setIfInBounds_toArray, List.set_cons_zero, List.set_cons_succ, Nat.zero_add, Nat.reduceAdd]; rfl)) ?_ (calmKeep_cons keep_is' (calmKeep_cons keep_is' (calmKeep_cons keep_is' (calmKeep_cons keep_is' (calmKeep_cons keep_is' (calmKeep_cons keep_is' (calmKeep_cons keep_is' (calmKeep_cons keep_inR (calmKeep_cons keep_inR (calmKeep_cons keep_inR (calmKeep_nil))))))))))) ?_ ?_
        · intro _
          exact ⟨HT.out.below (by (repeat' (first | (with_reducible exact Below.refl _ _) | (with_reducible refine Below.setCell ?_ ?_ _) | (with_reducible refine Below.alloc ?_ ?_ _) | (with_reducible refine Below.drew ?_) | (with_reducible refine below_drewN ?_ _))) <;> (first | omega | (simp <;> omega))), Past.below (by (repeat' (first | (with_reducible exact Below.refl _ _) | (with_reducible refine Below.setCell ?_ ?_ _) | (with_reducible refine Below.alloc ?_ ?_ _) | (with_reducible refine Below.drew ?_) | (with_reducible refine below_drewN ?_ _))) <;> (first | omega | (simp <;> omega)))⟩
        rotate_left 7
        · skip
          refine calmSteps_cons (fun u wq n hn hn2 hC hk K hK => ?_) ?_
          · obtain ⟨hT, hP⟩ := hC
            clear hk
            go_simp
            exact hK _ _ _ rfl ⟨hT, hP⟩ (Past.refl _ _) rfl
          refine calmSteps_cons (fun u wq n hn hn2 hC hk K hK => ?_) ?_
          · obtain ⟨hT, hP⟩ := hC
            simp only [calmKnown, List.getElem?_cons_zero, List.getElem?_cons_succ, and_true, Is, Pure, Option.some.injEq, List.getD_cons_zero, List.getD_cons_succ, List.map_cons, List.map_nil] at hk
            have h0 := hk; clear hk
            simp only [h0] at hK ⊢
            have H0 := Lib.hid h0; clear h0
            have hE9 := hP.blk HE.out (by simp; omega)
            have cE9 := hE9.cell; have lE9 := hE9.lt
            go_simp
            exact hK _ _ _ rfl ⟨hT, hP⟩ (Past.refl _ _) rfl
          refine calmSteps_cons (fun u wq n hn hn2 hC hk K hK => ?_) ?_
          · obtain ⟨hT, hP⟩ := hC
            simp only [calmKnown, List.getElem?_cons_zero, List.getElem?_cons_succ, and_true, Is, Pure, Option.some.injEq, List.getD_cons_zero, List.getD_cons_succ, List.map_cons, List.map_nil] at hk
            have h1 := hk; clear hk
            simp only [h1] at hK ⊢
            have H1 := Lib.hid h1; clear h1
            go_simp
            exact hK _ _ _ rfl ⟨hT, hP⟩ (Past.refl _ _) rfl
          refine calmSteps_cons (fun u wq n hn hn2 hC hk K hK => ?_) ?_
          · obtain ⟨hT, hP⟩ := hC
            clear hk
            go_simp
            exact hK _ _ _ rfl ⟨hT, hP⟩ (Past.refl _ _) rfl
          refine calmSteps_cons (fun u wq n hn hn2 hC hk K hK => ?_) ?_
          · obtain ⟨hT, hP⟩ := hC
            clear hk
            have hE9 := hP.blk HE.out (by simp; omega)
            have cE9 := hE9.cell; have lE9 := hE9.lt
            go_simp
            exact hK _ _ _ rfl ⟨hT, hP⟩ (Past.refl _ _) rfl
          refine calmSteps_cons (fun u wq n hn hn2 hC hk K hK => ?_) ?_
          · obtain ⟨hT, hP⟩ := hC
            simp only [calmKnown, List.getElem?_cons_zero, List.getElem?_cons_succ, and_true, Is, Pure, Option.some.injEq, List.getD_cons_zero, List.getD_cons_succ, List.map_cons, List.map_nil] at hk
            have h4 := hk; clear hk
            simp only [h4] at hK ⊢
            have H4 := Lib.hid h4; clear h4
            go_wp2_with fail
            refine (RWD.out _).mono ?_
            rintro e w2 ⟨rfl, hbl⟩
            exact hK _ _ _ rfl ⟨hT.below hbl, hP.trans (Past.below hbl)⟩ (Past.below hbl) rfl
          refine calmSteps_cons (fun u wq n hn hn2 hC hk K hK => ?_) ?_
          · obtain ⟨hT, hP⟩ := hC
            simp only [calmKnown, List.getElem?_cons_zero, List.getElem?_cons_succ, and_true, Is, Pure, Option.some.injEq, List.getD_cons_zero, List.getD_cons_succ, List.map_cons, List.map_nil] at hk
            have h5 := hk; clear hk
            simp only [h5] at hK ⊢
            have H5 := Lib.hid h5; clear h5
            go_simp
            exact hK _ _ _ rfl ⟨hT, hP⟩ (Past.refl _ _) rfl
          refine calmSteps_cons (fun u wq n hn hn2 hC hk K hK => ?_) ?_
          · obtain ⟨hT, hP⟩ := hC
            simp only [calmKnown, List.getElem?_cons_zero, List.getElem?_cons_succ, and_true, Is, Pure, Option.some.injEq, List.getD_cons_zero, List.getD_cons_succ, List.map_cons, List.map_nil] at hk
            obtain ⟨h3, h6⟩ := hk
            simp only [h3, h6] at hK ⊢
            have H3 := Lib.hid h3; clear h3; have H6 := Lib.hid h6; clear h6
            go_wp2_with fail
            (try simp only [ww])
            refine (int_any b (eh - el + 1) _ hT (by omega) (by omega)).mono ?_
            rintro e w2 ⟨x, rfl, v0, v1, ht, hgr⟩
            have hq := Past.grown (X := [b]) hgr (by simp)
            exact hK _ _ _ rfl ⟨ht, hP.trans hq⟩ hq ⟨x, rfl, v0, v1⟩
          refine calmSteps_cons (fun u wq n hn hn2 hC hk K hK => ?_) ?_
          · obtain ⟨hT, hP⟩ := hC
            simp only [calmKnown, List.getElem?_cons_zero, List.getElem?_cons_succ, and_true, Is, Pure, Option.some.injEq, List.getD_cons_zero, List.getD_cons_succ, List.map_cons, List.map_nil] at hk
            obtain ⟨h2, ⟨x7, h7, p7, q7⟩⟩ := hk
            simp only [h2, h7] at hK ⊢
            have H2 := Lib.hid h2; clear h2; have H7 := Lib.hid h7; clear h7
            go_simp
            exact hK _ _ _ rfl ⟨hT, hP⟩ (Past.refl _ _) ⟨_, rfl, by (try rw [ws]); rw [IntWalk.i64_in _ (by omega)]; omega, by (try rw [ws]); rw [IntWalk.i64_in _ (by omega)]; omega⟩
          refine calmSteps_cons (fun u wq n hn hn2 hC hk K hK => ?_) ?_
          · obtain ⟨hT, hP⟩ := hC
            simp only [calmKnown, List.getElem?_cons_zero, List.getElem?_cons_succ, and_true, Is, Pure, Option.some.injEq, List.getD_cons_zero, List.getD_cons_succ, List.map_cons, List.map_nil] at hk
            obtain ⟨x8, h8, p8, q8⟩ := hk
            simp only [h8] at hK ⊢
            have H8 := Lib.hid h8; clear h8
            go_simp
            exact hK _ _ _ rfl ⟨hT, hP⟩ (Past.refl _ _) ⟨_, rfl, by omega, by omega⟩
          exact calmSteps_nil
        · intro u w13 hC hF
          obtain ⟨hT, hP⟩ := hC
          simp only [calmFacts, Is, InR, and_true] at hF
          obtain ⟨-, -, -, -, -, -, -, -, -, ⟨tr, htr, tr0, tr1⟩⟩ := hF
          simp only [htr]
          clear htr
          have hg13 := hP.tapg
          have Z13 := hP.1
          replace HK := Lib.hid (HK.out.tap hg13 (by omega))
          replace HRW := Lib.hid (HRW.out.tap hg13 (by omega))
          replace HE := Lib.hid (HE.out.tap hg13 (by omega))
          replace HT := Lib.hid hT
          clear hT hP hg13
          have wn : IntKind.i64.wrap (100000 - tr) = 100000 - tr := IntWalk.i64_in _ (by omega)
          have wd : IntKind.i64.wrap (100000 - d) = 100000 - d := IntWalk.i64_in _ (by omega)
          obtain ⟨fb, hfb⟩ : ∃ fb, fitsB (100000 - tr) d 100000 = fb := ⟨_, rfl⟩
          have RF := Lib.hid (fun W => hfb ▸ rfits_any (100000 - tr) d 100000 W)
          clear hfb
          go_wp2_with fail
          refine (RF.out _).mono ?_
          rintro e w14 ⟨rfl, rfl⟩
          go_upto_if 50 with fail
          go_cut [11] (fun v wx => (∃ x, v = .int .i64 x ∧ 100000 - eh ≤ x ∧ x ≤ 100000 - el) ∧ Below w13.heap.size w13 wx)
          case first =>
            cases fb with
            | true =>
              go_wp2
              go_meet
              exact ⟨⟨tr, rfl, by omega, by omega⟩, (by (repeat' (first | (with_reducible exact Below.refl _ _) | (with_reducible refine Below.setCell ?_ ?_ _) | (with_reducible refine Below.alloc ?_ ?_ _) | (with_reducible refine Below.drew ?_) | (with_reducible refine below_drewN ?_ _))) <;> (first | omega | (simp <;> omega)))⟩
            | false =>
              go_wp2
              go_meet
              exact ⟨⟨100000 - d, rfl, by omega, by omega⟩, (by (repeat' (first | (with_reducible exact Below.refl _ _) | (with_reducible refine Below.setCell ?_ ?_ _) | (with_reducible refine Below.alloc ?_ ?_ _) | (with_reducible refine Below.drew ?_) | (with_reducible refine below_drewN ?_ _))) <;> (first | omega | (simp <;> omega)))⟩
          case rest =>
            obtain ⟨⟨tx, rfl, tx0, tx1⟩, KD⟩ := hcut
            have ZD := KD.size
            clear wn wd RF tr0 tr1
            replace HK := Lib.hid (HK.out.below KD)
            replace HT := Lib.hid (HT.out.below KD)
            replace HRW := Lib.hid (HRW.out.below KD)
            replace HE := Lib.hid (HE.out.below KD)
            clear KD
            obtain ⟨w14, rfl⟩ : ∃ x : World, x = wc := ⟨_, rfl⟩
            go_wp2_with fail
            refine (int_any b 30 _ (HT.out.below (by (repeat' (first | (with_reducible exact Below.refl _ _) | (with_reducible refine Below.setCell ?_ ?_ _) | (with_reducible refine Below.alloc ?_ ?_ _) | (with_reducible refine Below.drew ?_) | (with_reducible refine below_drewN ?_ _))) <;> (first | omega | (simp <;> omega)))) (by omega) (by omega)).mono ?_
            rintro e w15 ⟨ua, rfl, ua0, ua1, ht15, hg15⟩
            have Z15 := Nat.le_trans (show w14.heap.size ≤ _ from Below.size (show Below w14.heap.size w14 _ from (by (repeat' (first | (with_reducible exact Below.refl _ _) | (with_reducible refine Below.setCell ?_ ?_ _) | (with_reducible refine Below.alloc ?_ ?_ _) | (with_reducible refine Below.drew ?_) | (with_reducible refine below_drewN ?_ _))) <;> (first | omega | (simp <;> omega))))) hg15.size
            replace HK := Lib.hid ((HK.out.below (by (repeat' (first | (with_reducible exact Below.refl _ _) | (with_reducible refine Below.setCell ?_ ?_ _) | (with_reducible refine Below.alloc ?_ ?_ _) | (with_reducible refine Below.drew ?_) | (with_reducible refine below_drewN ?_ _))) <;> (first | omega | (simp <;> omega)))).tap hg15 (by omega))
            replace HRW := Lib.hid ((HRW.out.below (by (repeat' (first | (with_reducible exact Below.refl _ _) | (with_reducible refine Below.setCell ?_ ?_ _) | (with_reducible refine Below.alloc ?_ ?_ _) | (with_reducible refine Below.drew ?_) | (with_reducible refine below_drewN ?_ _))) <;> (first | omega | (simp <;> omega)))).tap hg15 (by omega))
            replace HE := Lib.hid ((HE.out.below (by (repeat' (first | (with_reducible exact Below.refl _ _) | (with_reducible refine Below.setCell ?_ ?_ _) | (with_reducible refine Below.alloc ?_ ?_ _) | (with_reducible refine Below.drew ?_) | (with_reducible refine below_drewN ?_ _))) <;> (first | omega | (simp <;> omega)))).tap hg15 (by omega))
            replace HT := Lib.hid ht15
            clear ht15
            clear hg15
            go_wp2_with fail
            refine (int_any b 30 _ (HT.out.below (by (repeat' (first | (with_reducible exact Below.refl _ _) | (with_reducible refine Below.setCell ?_ ?_ _) | (with_reducible refine Below.alloc ?_ ?_ _) | (with_reducible refine Below.drew ?_) | (with_reducible refine below_drewN ?_ _))) <;> (first | omega | (simp <;> omega)))) (by omega) (by omega)).mono ?_
            rintro e w16 ⟨ub, rfl, ub0, ub1, ht16, hg16⟩
            have Z16 := Nat.le_trans (show w15.heap.size ≤ _ from Below.size (show Below w15.heap.size w15 _ from (by (repeat' (first | (with_reducible exact Below.refl _ _) | (with_reducible refine Below.setCell ?_ ?_ _) | (with_reducible refine Below.alloc ?_ ?_ _) | (with_reducible refine Below.drew ?_) | (with_reducible refine below_drewN ?_ _))) <;> (first | omega | (simp <;> omega))))) hg16.size
            replace HK := Lib.hid ((HK.out.below (by (repeat' (first | (with_reducible exact Below.refl _ _) | (with_reducible refine Below.setCell ?_ ?_ _) | (with_reducible refine Below.alloc ?_ ?_ _) | (with_reducible refine Below.drew ?_) | (with_reducible refine below_drewN ?_ _))) <;> (first | omega | (simp <;> omega)))).tap hg16 (by omega))
            replace HRW := Lib.hid ((HRW.out.below (by (repeat' (first | (with_reducible exact Below.refl _ _) | (with_reducible refine Below.setCell ?_ ?_ _) | (with_reducible refine Below.alloc ?_ ?_ _) | (with_reducible refine Below.drew ?_) | (with_reducible refine below_drewN ?_ _))) <;> (first | omega | (simp <;> omega)))).tap hg16 (by omega))
            replace HE := Lib.hid ((HE.out.below (by (repeat' (first | (with_reducible exact Below.refl _ _) | (with_reducible refine Below.setCell ?_ ?_ _) | (with_reducible refine Below.alloc ?_ ?_ _) | (with_reducible refine Below.drew ?_) | (with_reducible refine below_drewN ?_ _))) <;> (first | omega | (simp <;> omega)))).tap hg16 (by omega))
            replace HT := Lib.hid ht16
            clear ht16
            clear hg16
            have wa : IntKind.i64.wrap (tx - ua) = tx - ua := IntWalk.i64_in _ (by omega)
            have wb : IntKind.i64.wrap (tx + ub) = tx + ub := IntWalk.i64_in _ (by omega)
            have hon : tx - ua + el ≤ 100000 ∧ 100000 ≤ tx + ub + eh ∧ -1000000 ≤ tx - ua ∧ tx - ua ≤ tx + ub ∧ tx + ub ≤ 1000000 := by omega
            obtain ⟨g12, hg12⟩ : ∃ g, w16.heap.size = g := ⟨_, rfl⟩
            have g12b : b < g12 := by omega
            go_upto_if 64 with fail
            (try rw [hg12])
            go_cut [] (fun wx => (∃ x0 x1, Blk wx g12 35 #[.int .i64 x0, .int .i64 x1] ∧ -1000000 ≤ x0 ∧ x0 ≤ x1 ∧ x1 ≤ 1000000 ∧ ((q : Int) < f ∨ (x0 + el ≤ 100000 ∧ 100000 ≤ x1 + eh))) ∧ TapeAt wx b ∧ w16.grownBy wx (some b))
            case first =>
              by_cases hlf : (q : Int) < f
              · have gf : decide ((q : Int) < f) = true := decide_eq_true hlf
                go_upto_region 15 with fail
                go_cut [] (fun wx => ∃ lo9, 0 ≤ lo9 ∧ lo9 ≤ 98000 ∧ Blk wx g12 35 #[.int .i64 lo9, .int .i64 0] ∧ GB b w16 wx ∧ TapeAt wx b)
                case first =>
                  go_wp2_with fail
                  refine (int_any b 99 _ (HT.out.below (by (repeat' (first | (with_reducible exact Below.refl _ _) | (with_reducible refine Below.setCell ?_ ?_ _) | (with_reducible refine Below.alloc ?_ ?_ _) | (with_reducible refine Below.drew ?_) | (with_reducible refine below_drewN ?_ _))) <;> (first | omega | (simp <;> omega)))) (by omega) (by omega)).mono ?_
                  rintro e w17 ⟨uc, rfl, uc0, uc1, ht17, hg17⟩
                  have Z17 : w16.heap.size < w17.heap.size := Nat.lt_of_lt_of_le (by simp) hg17.size
                  have hB17 : Blk w17 g12 35 #[.int .i64 (tx - ua), .int .i64 (tx + ub)] := Blk.keepG hg17 (by rw [← hg12]; first | exact Blk.new _ _ _ | exact setAll_blk [.int .i64 (tx - ua), .int .i64 (tx + ub)] 0 _ #[.int .i64 0, .int .i64 0] (Blk.new _ _ _)) (by omega)
                  have hG17 : GB b w16 w17 := GB.tap hg17 (by (repeat' (first | (with_reducible exact GB.refl _ _) | (with_reducible refine GB.setCell ?_ ?_ _) | (with_reducible refine GB.alloc ?_ _) | (with_reducible refine GB.drew ?_))) <;> (first | omega | (simp <;> omega)))
                  obtain ⟨c17, f17, l17, e17, k17⟩ := Blk.facts hB17
                  have w1000 : IntKind.i64.wrap (1000 * uc) = 1000 * uc := IntWalk.i64_in _ (by omega)
                  obtain ⟨lo9, hlo9⟩ : ∃ lo9, 1000 * uc = lo9 := ⟨_, rfl⟩
                  have lo90 : 0 ≤ lo9 := by omega
                  have lo91 : lo9 ≤ 98000 := by omega
                  replace w1000 := w1000.trans hlo9
                  clear hlo9 hg17
                  go_wp2_with fail
                  go_meet
                  exact ⟨lo9, lo90, lo91, setAll_blk [.int .i64 lo9, .int .i64 0] 0 _ #[.int .i64 (tx - ua), .int .i64 (tx + ub)] hB17, setAll_gb (by omega) [.int .i64 lo9, .int .i64 0] 0 _ hG17, setAll_tape g12b [.int .i64 lo9, .int .i64 0] 0 _ ht17⟩
                case rest =>
                  obtain ⟨lo9, lo90, lo91, hB, hG, hT0⟩ := hcut
                  have ZG := hG.size
                  have lg12 := hB.lt
                  go_wp2_with fail
                  refine' wp_region_calm (by kernel_rfl) (fun n _ w' => TapeAt w' b ∧ GB b w16 w' ∧ (n = 0 → Blk w' g12 35 #[.int .i64 lo9, .int .i64 0]) ∧ (n = 1 → ∃ x1, Blk w' g12 35 #[.int .i64 lo9, .int .i64 x1] ∧ lo9 ≤ x1 ∧ x1 ≤ 1000000)) (fun _ _ => True) [(Is _), (Is _), (Is _), (InR 0 9), (InR lo9 (lo9 + 9)), (Is _), (fun _ _ _ => True)] [[], [0], [], [2], [1, 3], [], [4, 5]] [6] [] rfl (by kernel_rfl) (fun u => by (simp only [calmPut, Act.put, List.setIfInBounds_toArray, List.set_cons_zero, List.set_cons_succ, Nat.zero_add, Nat.reduceAdd]; rfl)) ?_ (calmKeep_cons keep_is' (calmKeep_cons keep_is' (calmKeep_cons keep_is' (calmKeep_cons keep_inR (calmKeep_cons keep_inR (calmKeep_cons keep_is' (calmKeep_cons keep_triv (calmKeep_nil)))))))) ?_ ?_
                  · intro _
                    exact ⟨hT0.drew, GB.drew hG, (fun _ => Blk.drew hB), (fun h => absurd h (by decide))⟩
                  rotate_left 4
                  · skip
                    refine calmSteps_cons (fun u wq n hn hn2 hC hk K hK => ?_) ?_
                    · obtain ⟨hT, hG9, h0, h1⟩ := hC
                      clear hk
                      go_simp
                      exact hK _ _ _ rfl ⟨hT, hG9, h0, h1⟩ trivial rfl
                    refine calmSteps_cons (fun u wq n hn hn2 hC hk K hK => ?_) ?_
                    · obtain ⟨hT, hG9, h0, h1⟩ := hC
                      simp only [calmKnown, List.getElem?_cons_zero, List.getElem?_cons_succ, and_true, Is, Pure, Option.some.injEq, List.getD_cons_zero, List.getD_cons_succ, List.map_cons, List.map_nil] at hk
                      have h0 := hk; clear hk
                      simp only [h0] at hK ⊢
                      have H0 := Lib.hid h0; clear h0
                      have hn0 : n = 0 := Nat.le_zero.1 (hn2 0 6 rfl (by kernel_rfl))
                      have cB := (h0 hn0).cell; have lB := (h0 hn0).lt
                      go_simp
                      exact hK _ _ _ rfl ⟨hT, hG9, h0, h1⟩ trivial rfl
                    refine calmSteps_cons (fun u wq n hn hn2 hC hk K hK => ?_) ?_
                    · obtain ⟨hT, hG9, h0, h1⟩ := hC
                      clear hk
                      go_simp
                      exact hK _ _ _ rfl ⟨hT, hG9, h0, h1⟩ trivial rfl
                    refine calmSteps_cons (fun u wq n hn hn2 hC hk K hK => ?_) ?_
                    · obtain ⟨hT, hG9, h0, h1⟩ := hC
                      simp only [calmKnown, List.getElem?_cons_zero, List.getElem?_cons_succ, and_true, Is, Pure, Option.some.injEq, List.getD_cons_zero, List.getD_cons_succ, List.map_cons, List.map_nil] at hk
                      have h2 := hk; clear hk
                      simp only [h2] at hK ⊢
                      have H2 := Lib.hid h2; clear h2
                      have hn0 : n = 0 := Nat.le_zero.1 (hn2 0 6 rfl (by kernel_rfl))
                      have hb0 := h0 hn0
                      subst hn0
                      clear h0
                      go_wp2_with fail
                      refine (int_any b 9 _ hT (by omega) (by omega)).mono ?_
                      rintro e w2 ⟨x, rfl, v0, v1, ht, hgr⟩
                      exact hK _ _ _ rfl ⟨ht, GB.tap hgr hG9, fun _ => Blk.keepG hgr hb0 (by omega), fun h => absurd h (by decide)⟩ trivial ⟨x, rfl, v0, v1⟩
                    refine calmSteps_cons (fun u wq n hn hn2 hC hk K hK => ?_) ?_
                    · obtain ⟨hT, hG9, h0, h1⟩ := hC
                      simp only [calmKnown, List.getElem?_cons_zero, List.getElem?_cons_succ, and_true, Is, Pure, Option.some.injEq, List.getD_cons_zero, List.getD_cons_succ, List.map_cons, List.map_nil] at hk
                      obtain ⟨h1, ⟨x3, h3, p3, q3⟩⟩ := hk
                      simp only [h1, h3] at hK ⊢
                      have H1 := Lib.hid h1; clear h1; have H3 := Lib.hid h3; clear h3
                      go_simp
                      exact hK _ _ _ rfl ⟨hT, hG9, h0, h1⟩ trivial ⟨_, rfl, by rw [IntWalk.i64_in _ (by omega)]; omega, by rw [IntWalk.i64_in _ (by omega)]; omega⟩
                    refine calmSteps_cons (fun u wq n hn hn2 hC hk K hK => ?_) ?_
                    · obtain ⟨hT, hG9, h0, h1⟩ := hC
                      clear hk
                      go_simp
                      exact hK _ _ _ rfl ⟨hT, hG9, h0, h1⟩ trivial rfl
                    refine calmSteps_cons (fun u wq n hn hn2 hC hk K hK => ?_) ?_
                    · obtain ⟨hT, hG9, h0, h1⟩ := hC
                      simp only [calmKnown, List.getElem?_cons_zero, List.getElem?_cons_succ, and_true, Is, Pure, Option.some.injEq, List.getD_cons_zero, List.getD_cons_succ, List.map_cons, List.map_nil] at hk
                      obtain ⟨⟨x4, h4, p4, q4⟩, h5⟩ := hk
                      simp only [h4, h5] at hK ⊢
                      have H4 := Lib.hid h4; clear h4; have H5 := Lib.hid h5; clear h5
                      obtain rfl := hn 0 rfl
                      have hB9 := h0 rfl
                      clear h0 h1
                      have cB := hB9.cell; have fB := hB9.frozen; have lB := hB9.lt
                      have hB2 := hB9.set_ 1 (.int .i64 x4)
                      simp only [List.setIfInBounds_toArray, List.set_cons_zero, List.set_cons_succ] at hB2
                      go_simp
                      exact hK _ undef _ rfl ⟨hT.set g12b _, GB.setCell hG9 (by simp only; omega) _, (fun h => absurd h (by decide)), fun _ => ⟨x4, hB2, by omega, by omega⟩⟩ trivial trivial
                    exact calmSteps_nil
                  · intro u w18 hC hF
                    obtain ⟨hT, hG9, -, h1⟩ := hC
                    obtain ⟨x1, hB9, x10, x11⟩ := h1 rfl
                    clear hF
                    go_wp2_with fail
                    go_meet
                    exact ⟨⟨lo9, x1, hB9, by omega, x10, x11, .inl hlf⟩, hT, hG9⟩
              · have gf : decide ((q : Int) < f) = false := decide_eq_false hlf
                go_wp2_with fail
                go_meet
                exact ⟨⟨tx - ua, tx + ub, by (rw [← hg12]; first | exact Blk.new _ _ _ | exact setAll_blk [.int .i64 (tx - ua), .int .i64 (tx + ub)] 0 _ #[.int .i64 0, .int .i64 0] (Blk.new _ _ _)), by omega, by omega, by omega, .inr ⟨hon.1, hon.2.1⟩⟩, HT.out.below (by (repeat' (first | (with_reducible exact Below.refl _ _) | (with_reducible refine Below.setCell ?_ ?_ _) | (with_reducible refine Below.alloc ?_ ?_ _) | (with_reducible refine Below.drew ?_) | (with_reducible refine below_drewN ?_ _))) <;> (first | omega | (simp <;> omega))), (by show GB b _ _; (repeat' (first | (with_reducible exact GB.refl _ _) | (with_reducible refine GB.setCell ?_ ?_ _) | (with_reducible refine GB.alloc ?_ _) | (with_reducible refine GB.drew ?_))) <;> (first | omega | (simp <;> omega)))⟩
            case rest =>
              obtain ⟨⟨x0, x1, bx, x00, x01, x11, hhon⟩, htx, hgx⟩ := hcut
              have ZX := hgx.size
              clear wa wb hon ua0 ua1 ub0 ub1 tx0 tx1
              replace HK := Lib.hid (HK.out.tap hgx (by omega))
              replace HRW := Lib.hid (HRW.out.tap hgx (by omega))
              replace HE := Lib.hid (HE.out.tap hgx (by omega))
              replace HT := Lib.hid htx
              clear htx hgx
              obtain ⟨w19, rfl⟩ : ∃ x : World, x = wc := ⟨_, rfl⟩
              have cx := bx.cell
              have lx := bx.lt
              have w7d : IntKind.i64.wrap (70000 - d) = 70000 - d := IntWalk.i64_in _ (by omega)
              have hkk : KOk (⟨70000 - d, x0, x1, 100000, 0, 0⟩ : K6) := ⟨d, d0, d1, rfl, rfl, rfl, rfl, x00, x01, x11⟩
              have hnx := cnt_next hkk HCN.out (hhon.imp id fun h => by rw [show (70000 : Int) - (70000 - d) = d by omega, HEL.out, HEH.out]; exact h) (cntS_nonneg _ _).1
              have HNX := Lib.hid (And.intro hkk hnx); clear hkk hnx hhon
              obtain ⟨i0, hif, hz0, hz1, hz2⟩ := info_parts infoKn
              go_wp2_with (at_builtin; refine wpList_append_lies _ rfl _ _ 77 rfl (w.heap.size + 1) 72 i0 (.agg #[.int .i64 0, .int .i64 0, .int .i64 0, .int .i64 0, .int .i64 0, .int .i64 0]) 6 48 Try.underlying77 hif hz0 hz1 hz2 rfl (by decide) _ ks.length (kCells ks) rfl (RowK.below HRW.out (by (repeat' (first | (with_reducible exact Below.refl _ _) | (with_reducible refine Below.setCell ?_ ?_ _) | (with_reducible refine Below.alloc ?_ ?_ _) | (with_reducible refine Below.drew ?_) | (with_reducible refine below_drewN ?_ _))) <;> (first | omega | (simp <;> omega)))) ⟨_, 0, none⟩ 1 1 [.int .i64 (70000 - d), .int .i64 x0, .int .i64 x1, .int .i64 100000, .int .i64 0, .int .i64 0] rfl rfl ?c1 ?c2 (by decide) ?c3 ?c4 ?c5 _ rfl ?_)
              case c1 => first | exact World.news_of_block (t := 72) (fr := (0, 0)) (Blk.new _ _ _) | exact World.news_of_block (t := 72) (fr := (0, 0)) (Blk.new1 _ _ _ _)
              case c2 => intro u hu; simp at hu; rcases hu with rfl | rfl | rfl | rfl | rfl | rfl <;> rfl
              case c3 => unfold maxLen; omega
              case c4 => omega
              case c5 => first | omega | (simp; omega)
              intro g7 cp7 w7 hown hgrow hlie hglt
              rw [HXX.out] at hgrow
              have K7 : Below w.heap.size w w7 := (show Below w.heap.size w _ from HK.out.below (by (repeat' (first | (with_reducible exact Below.refl _ _) | (with_reducible refine Below.setCell ?_ ?_ _) | (with_reducible refine Below.alloc ?_ ?_ _) | (with_reducible refine Below.drew ?_) | (with_reducible refine below_drewN ?_ _))) <;> (first | omega | (simp <;> omega)))).grown hgrow (by first | omega | (simp; omega)) (fun k hk => by have := hXl k hk; omega)
              have T7 : TapeAt w7 b := (HT.out.below (by (repeat' (first | (with_reducible exact Below.refl _ _) | (with_reducible refine Below.setCell ?_ ?_ _) | (with_reducible refine Below.alloc ?_ ?_ _) | (with_reducible refine Below.drew ?_) | (with_reducible refine below_drewN ?_ _))) <;> (first | omega | (simp <;> omega)))).kept (fun kk hk => hgrow.block kk (by have := HT.out.lt; first | omega | (simp; omega)) (fun e => by have := hXl kk e.symm; omega))
              have R7 : RowK w7 (w.heap.size + 1) (.slice (some ⟨g7, 0, none⟩) (ks ++ [(⟨70000 - d, x0, x1, 100000, 0, 0⟩ : K6)]).length cp7) (ks ++ [(⟨70000 - d, x0, x1, 100000, 0, 0⟩ : K6)]) := by
                unfold RowK
                rw [List.length_append, List.length_singleton, kCells_snoc]; exact hown
              have H7 := Lib.hid (And.intro K7 (And.intro T7 R7))
              clear hown hgrow hlie hglt K7 T7 R7
              go_wp2
              go_roundg (k - (q + 1))
              case measure => omega
              case rel => exact ⟨q + 1, _, _, ks ++ [(⟨70000 - d, x0, x1, 100000, 0, 0⟩ : K6)], by omega, by omega, by go_num, by simp, by simp [HKL.out], H7.out.2.2, fun y hy => by rcases List.mem_append.1 hy with h | h <;> first | exact HOK.out y h | (rw [List.mem_singleton.1 h]; exact HNX.out.1), HNX.out.2, H7.out.2.1, H7.out.1⟩
    · obtain rfl : q = k := by omega
      have gq : decide ((q : Int) < (q : Int)) = false := decide_eq_false (by omega)
      have hkn := RowK.known HRW.out (by omega)
      have HKN := Lib.hid hkn
      have HFIN := Lib.hid (fun x y er (h : MG ks 70000 f x y er) => merges_truth HOK.out (by omega) f0 (by rw [HKL.out]; omega) (by rw [HKL.out]; exact HCN.out) h)
      clear hkn HRW HT HOK HCN hrl
      go_wp2_with fail
      refine (imerge_any A0 ks.length c0 ks 70000 f _ (HKN.out.below (by (repeat' (first | (with_reducible exact Below.refl _ _) | (with_reducible refine Below.setCell ?_ ?_ _) | (with_reducible refine Below.alloc ?_ ?_ _) | (with_reducible refine Below.drew ?_) | (with_reducible refine below_drewN ?_ _))) <;> (first | omega | (simp <;> omega))))).mono ?_
      rintro e w41 ⟨x, y, er, rfl, hmg, hb41⟩
      have S41 : Below wr.heap.size wr w41 := kept_call hb41 (by (repeat' (first | (with_reducible exact Below.refl _ _) | (with_reducible refine Below.setCell ?_ ?_ _) | (with_reducible refine Below.alloc ?_ ?_ _) | (with_reducible refine Below.drew ?_) | (with_reducible refine below_drewN ?_ _))) <;> (first | omega | (simp <;> omega)))
      have Z41 := S41.size
      replace HK := Lib.hid (HK.out.below S41)
      replace HKN := Lib.hid (HKN.out.below S41)
      clear hb41 S41
      obtain ⟨rfl, hh⟩ := HFIN.out x y er hmg
      have HHD := Lib.hid hh; clear hmg hh HFIN HKN
      go_wp2_with fail
      refine (known37_any _).mono ?_
      rintro e w42 ⟨rfl, hb42⟩
      have S42 : Below w41.heap.size w41 w42 := kept_call hb42 (by (repeat' (first | (with_reducible exact Below.refl _ _) | (with_reducible refine Below.setCell ?_ ?_ _) | (with_reducible refine Below.alloc ?_ ?_ _) | (with_reducible refine Below.drew ?_) | (with_reducible refine below_drewN ?_ _))) <;> (first | omega | (simp <;> omega)))
      have Z42 := S42.size
      have HX := Lib.hid (Blk.keep (g := w41.heap.size) (t := 35) (cs := #[.int .i64 x, .int .i64 y]) hb42 (by first | exact Blk.new _ _ _ | exact setAll_blk [.int .i64 x, .int .i64 y] 0 _ #[.int .i64 0, .int .i64 0] (Blk.new _ _ _)))
      replace HK := Lib.hid (HK.out.below S42)
      clear hb42 S42
      have bx := HX.out
      obtain ⟨cx, fx, lx, ex, kx⟩ := Blk.facts bx
      have RH := Lib.hid (fun W => HHD.out ▸ rholds_all x y 100000 W)
      go_wp2_with fail
      refine (RH.out _).mono ?_
      rintro e w43 ⟨rfl, hb43⟩
      have S43 : Below w42.heap.size w42 w43 := kept_call hb43 (by (repeat' (first | (with_reducible exact Below.refl _ _) | (with_reducible refine Below.setCell ?_ ?_ _) | (with_reducible refine Below.alloc ?_ ?_ _) | (with_reducible refine Below.drew ?_) | (with_reducible refine below_drewN ?_ _))) <;> (first | omega | (simp <;> omega)))
      have Z43 := S43.size
      replace HK := Lib.hid (HK.out.below S43)
      replace HX := Lib.hid (HX.out.below S43)
      clear hb43 S43
      go_wp2
      go_ret
      exact ⟨rfl, HK.out.below (by (repeat' (first | (with_reducible exact Below.refl _ _) | (with_reducible refine Below.setCell ?_ ?_ _) | (with_reducible refine Below.alloc ?_ ?_ _) | (with_reducible refine Below.drew ?_) | (with_reducible refine below_drewN ?_ _))) <;> (first | omega | (simp <;> omega)))⟩
theorem merges_row (A : Option Addr) (len cap : Nat) (zs : List Int) {w : World} (k : IntsAt w A len zs) (W : World) (hw : W = w) :
    Walked 11 #[.slice A len cap] W := by
  subst hw; exact merges_walk A len cap zs W k
end Go.Proofs.Ytlfkkfdolnkjfaa
