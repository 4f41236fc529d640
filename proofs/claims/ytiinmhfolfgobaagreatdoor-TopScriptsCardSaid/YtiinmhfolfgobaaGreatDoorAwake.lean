/- The sanity check of the laws through the layers. -/
import Derived.Deep.AppendLies
import Derived.OwnWalk
import Derived.Test.YtiinmhfolfgobaaGreatDoorJ8
import Derived.Test.YtiinmhfolfgobaaGreatDoorJ31
import Derived.Test.YtiinmhfolfgobaaGreatDoorJ12
import Derived.Test.YtiinmhfolfgobaaGreatDoorJ6
import Derived.Test.YtiinmhfolfgobaaGreatDoorSeqS
namespace Go.Proofs.YtiinmhfolfgobaaGreatDoor
open Go.RowKit Go.Shelf
set_option linter.unusedSimpArgs false
set_option linter.unusedVariables false

set_option maxHeartbeats 1000000 in
theorem wire_now (w : World) : Calls Tryz.prog 53 #[.int .i64 4089446400000000] w (fun e w' => e = .returned (.tuple #[.int .u64 16750372454400000000, .int .i64 0]) ∧ w = w') := by
  have h : vT 4089446400000000 = true := by decide
  have r := tvalid_any 4089446400000000
  rw [h] at r
  have R := Lib.hid r; clear r h
  go_enter Tryz.func53, Tryz.ntmps53
  go_wp2_with fail
  refine (R.out _).mono ?_
  rintro e wq1 ⟨rfl, rfl⟩
  go_wp2
  go_ret2
  exact ⟨rfl, rfl⟩
set_option maxHeartbeats 1000000 in
theorem down_now (w : World) : Calls Tryz.prog 116 #[.int .u64 16750372454400000000] w (fun e w' => e = .returned (.int .i64 4089446400000000) ∧ w = w') := by
  go_enter Tryz.func116, Tryz.ntmps116
  go_wp2
  go_ret
  exact ⟨rfl, rfl⟩
theorem mask_now : bits .and .u64 16750372454400000000 4095 = 0 := by decide +kernel
set_option maxHeartbeats 1000000 in
theorem up_now (w : World) : Calls Tryz.prog 115 #[.int .u64 16750372454400000000] w (fun e w' => e = .returned (.int .i64 4089446400000000) ∧ w = w') := by
  have hm := mask_now
  go_enter Tryz.func115, Tryz.ntmps115
  go_wp2_with fail
  refine (down_now _).mono ?_
  rintro e wq1 ⟨rfl, rfl⟩
  go_wp2
  go_ret
  exact ⟨rfl, rfl⟩
theorem down_rb (w : World) : Calls Tryz.prog 116 #[.int .u64 16750372454400000000] w (RB w (.int .i64 4089446400000000)) := (down_now w).mono fun _ _ h => ⟨h.1, h.2 ▸ Below.refl _ _⟩
theorem up_rb (w : World) : Calls Tryz.prog 115 #[.int .u64 16750372454400000000] w (RB w (.int .i64 4089446400000000)) := (up_now w).mono fun _ _ h => ⟨h.1, h.2 ▸ Below.refl _ _⟩
def UnR (w : World) (e : Ending) (w' : World) : Prop := ∃ g c, e = .returned (.tuple #[.slice (some ⟨g, 0, none⟩) 1 c, .int .i64 0]) ∧ w.heap.size ≤ g ∧ g < w'.heap.size ∧ w'.cell? ⟨g, 0, none⟩ = some (.int .i64 4089446400000000) ∧ w'.cell? ⟨g, 1, none⟩ = some (.int .i64 4089446400000000) ∧ Below w.heap.size w w'
def UnRel (w : World) (v i : Value) (G : Nat) (wr : World) : Prop := ∃ q : Nat, q ≤ 1 ∧ G = 1 - q ∧ i = .int .i64 q ∧ (q = 0 → v = .slice none 0 0) ∧ (q = 1 → ∃ g c, v = .slice (some ⟨g, 0, none⟩) 1 c ∧ w.heap.size ≤ g ∧ g < wr.heap.size ∧ wr.cell? ⟨g, 0, none⟩ = some (.int .i64 4089446400000000) ∧ wr.cell? ⟨g, 1, none⟩ = some (.int .i64 4089446400000000)) ∧ Below w.heap.size w wr
set_option maxRecDepth 100000 in
set_option maxHeartbeats 1000000 in
theorem stamp_now  (w : World) :
    Calls Tryz.prog 117 #[.int .i64 0, .int .u64 16750372454400000000] w (RB w (.agg #[.int .i64 4089446400000000, .int .i64 4089446400000000])) := by
  have hd := down_now
  have hu := up_now
  go_enter Tryz.func117, Tryz.ntmps117
  go_wp2_with fail
  refine (down_now _).mono ?_
  rintro e wq1 ⟨rfl, rfl⟩
  go_wp2_with fail
  refine (up_now _).mono ?_
  rintro e wq2 ⟨rfl, rfl⟩
  go_wp2
  exact bodyPost_ret (v := .agg #[.int .i64 4089446400000000, .int .i64 4089446400000000]) (by simp [results, Tryz.results117, go_sem, *]) rfl ⟨rfl, (by (repeat' (first | (with_reducible exact Below.refl _ _) | (with_reducible refine Below.setCell ?_ ?_ _) | (with_reducible refine Below.alloc ?_ ?_ _) | (with_reducible refine Below.drew ?_) | (with_reducible refine below_drewN ?_ _))) <;> (first | omega | (simp <;> omega)))⟩
set_option maxRecDepth 100000 in
set_option maxHeartbeats 4000000 in
theorem unfold_now  (w : World) :
    Calls Tryz.prog 76 #[.agg #[.int .i64 4089446399999000, .int .i64 4089446400001000], .int .u64 16750372454400000000] w (UnR w) := by
  have hv : vS 4089446399999000 4089446400001000 = true := by decide
  have r := svalid_any 4089446399999000 4089446400001000
  rw [hv] at r
  have R := Lib.hid r; clear r hv
  have RV := Lib.hid (fun W => (show Calls _ _ _ _ (RB W _) from (R.out W).mono (fun _ _ hh => ⟨hh.1, hh.2 ▸ (Below.refl _ _).alloc (Nat.le_refl _) _⟩)))
  clear R
  have HK := Lib.hid (show Kp w w from Below.refl _ _)
  go_enter Tryz.func76, Tryz.ntmps76
  go_upto_region 0 with fail
  go_cut [2] (fun v wx => v = .pointer (some ⟨w.heap.size, 0, none⟩) ∧ Blk wx w.heap.size 40 #[.int .i64 4089446399999000, .int .i64 4089446400001000] ∧ Below w.heap.size w wx)
  case first =>
    go_wp2_with fail
    go_meet
    exact ⟨rfl, Blk.new _ _ _, (by (repeat' (first | (with_reducible exact Below.refl _ _) | (with_reducible refine Below.setCell ?_ ?_ _) | (with_reducible refine Below.alloc ?_ ?_ _) | (with_reducible refine Below.drew ?_) | (with_reducible refine below_drewN ?_ _))) <;> (first | omega | (simp <;> omega)))⟩
  case rest =>
    obtain ⟨rfl, hb, KC⟩ := hcut
    have ZC := KC.size
    have lb := hb.lt
    have HB := Lib.hid hb; clear hb
    replace HK := Lib.hid (HK.out.below KC)
    clear KC
    obtain ⟨cb, fb, lb2, eb, kb⟩ := Blk.facts HB.out
    go_wp2_with fail
    refine (RV.out _).mono ?_
    rintro e w1 ⟨rfl, hb1⟩
    have S1 : Below wc.heap.size wc w1 := kept_call hb1 (by (repeat' (first | (with_reducible exact Below.refl _ _) | (with_reducible refine Below.setCell ?_ ?_ _) | (with_reducible refine Below.alloc ?_ ?_ _) | (with_reducible refine Below.drew ?_) | (with_reducible refine below_drewN ?_ _))) <;> (first | omega | (simp <;> omega)))
    have Z1 := S1.size
    replace HK := Lib.hid (HK.out.below S1)
    replace HB := Lib.hid (HB.out.below S1)
    clear hb1 S1
    clear cb fb lb2 eb kb
    go_wp2_with fail
    refine' wp_region_calm (by kernel_rfl) (fun _ _ w' => Below w1.heap.size w1 w' ∧ True) (fun _ _ => True) [(Is _), (Is _), (Is _), (Is _), (Is _), (Is _), (Is _), (Is _), (Is _), (Is _), (Is _), (Is _), (Is _), (Is _), (Is _), (Is _)] [[], [0], [], [2], [1, 3], [4], [5], [6], [], [8], [], [10], [9, 11], [12], [7], [13]] [] [] rfl (by kernel_rfl) (fun u => by (simp only [calmPut, Act.put, List.setIfInBounds_toArray, List.set_cons_zero, List.set_cons_succ, Nat.zero_add, Nat.reduceAdd]; rfl)) ?_ (calmKeep_cons keep_is' (calmKeep_cons keep_is' (calmKeep_cons keep_is' (calmKeep_cons keep_is' (calmKeep_cons keep_is' (calmKeep_cons keep_is' (calmKeep_cons keep_is' (calmKeep_cons keep_is' (calmKeep_cons keep_is' (calmKeep_cons keep_is' (calmKeep_cons keep_is' (calmKeep_cons keep_is' (calmKeep_cons keep_is' (calmKeep_cons keep_is' (calmKeep_cons keep_is' (calmKeep_cons keep_is' (calmKeep_nil))))))))))))))))) ?_ ?_
    · intro _
      exact ⟨(by (repeat' (first | (with_reducible exact Below.refl _ _) | (with_reducible refine Below.setCell ?_ ?_ _) | (with_reducible refine Below.alloc ?_ ?_ _) | (with_reducible refine Below.drew ?_) | (with_reducible refine below_drewN ?_ _))) <;> (first | omega | (simp <;> omega))), trivial⟩
    rotate_left 16
    · skip
      refine calmSteps_cons (fun u wq n hn hn2 hC hk K hK => ?_) ?_
      · obtain ⟨hP, hTr⟩ := hC
        clear hk
        go_simp
        exact hK _ _ _ rfl ⟨hP, trivial⟩ trivial rfl
      refine calmSteps_cons (fun u wq n hn hn2 hC hk K hK => ?_) ?_
      · obtain ⟨hP, hTr⟩ := hC
        simp only [calmKnown, List.getElem?_cons_zero, List.getElem?_cons_succ, and_true, Is, Pure, Option.some.injEq, List.getD_cons_zero, List.getD_cons_succ, List.map_cons, List.map_nil] at hk
        have h0 := hk; clear hk
        simp only [h0] at hK ⊢
        have H0 := Lib.hid h0; clear h0
        have cB := (HB.out.below hP).cell; have lB := (HB.out.below hP).lt
        go_simp
        exact hK _ _ _ rfl ⟨hP, trivial⟩ trivial rfl
      refine calmSteps_cons (fun u wq n hn hn2 hC hk K hK => ?_) ?_
      · obtain ⟨hP, hTr⟩ := hC
        clear hk
        go_simp
        exact hK _ _ _ rfl ⟨hP, trivial⟩ trivial rfl
      refine calmSteps_cons (fun u wq n hn hn2 hC hk K hK => ?_) ?_
      · obtain ⟨hP, hTr⟩ := hC
        simp only [calmKnown, List.getElem?_cons_zero, List.getElem?_cons_succ, and_true, Is, Pure, Option.some.injEq, List.getD_cons_zero, List.getD_cons_succ, List.map_cons, List.map_nil] at hk
        have h2 := hk; clear hk
        simp only [h2] at hK ⊢
        have H2 := Lib.hid h2; clear h2
        go_wp2_with fail
        first | (with_reducible refine (up_rb _).mono ?_) | (with_reducible refine (down_rb _).mono ?_)
        rintro e w2 ⟨rfl, hbl⟩
        exact hK _ _ _ rfl ⟨kept_call hbl hP, trivial⟩ trivial rfl
      refine calmSteps_cons (fun u wq n hn hn2 hC hk K hK => ?_) ?_
      · obtain ⟨hP, hTr⟩ := hC
        simp only [calmKnown, List.getElem?_cons_zero, List.getElem?_cons_succ, and_true, Is, Pure, Option.some.injEq, List.getD_cons_zero, List.getD_cons_succ, List.map_cons, List.map_nil] at hk
        obtain ⟨h1, h3⟩ := hk
        simp only [h1, h3] at hK ⊢
        have H1 := Lib.hid h1; clear h1; have H3 := Lib.hid h3; clear h3
        go_simp
        exact hK _ _ _ rfl ⟨hP, trivial⟩ trivial rfl
      refine calmSteps_cons (fun u wq n hn hn2 hC hk K hK => ?_) ?_
      · obtain ⟨hP, hTr⟩ := hC
        simp only [calmKnown, List.getElem?_cons_zero, List.getElem?_cons_succ, and_true, Is, Pure, Option.some.injEq, List.getD_cons_zero, List.getD_cons_succ, List.map_cons, List.map_nil] at hk
        have h4 := hk; clear hk
        simp only [h4] at hK ⊢
        have H4 := Lib.hid h4; clear h4
        go_simp
        exact hK _ _ _ rfl ⟨hP, trivial⟩ trivial rfl
      refine calmSteps_cons (fun u wq n hn hn2 hC hk K hK => ?_) ?_
      · obtain ⟨hP, hTr⟩ := hC
        simp only [calmKnown, List.getElem?_cons_zero, List.getElem?_cons_succ, and_true, Is, Pure, Option.some.injEq, List.getD_cons_zero, List.getD_cons_succ, List.map_cons, List.map_nil] at hk
        have h5 := hk; clear hk
        simp only [h5] at hK ⊢
        have H5 := Lib.hid h5; clear h5
        go_simp
        exact hK _ _ _ rfl ⟨hP, trivial⟩ trivial rfl
      refine calmSteps_cons (fun u wq n hn hn2 hC hk K hK => ?_) ?_
      · obtain ⟨hP, hTr⟩ := hC
        simp only [calmKnown, List.getElem?_cons_zero, List.getElem?_cons_succ, and_true, Is, Pure, Option.some.injEq, List.getD_cons_zero, List.getD_cons_succ, List.map_cons, List.map_nil] at hk
        have h6 := hk; clear hk
        simp only [h6] at hK ⊢
        have H6 := Lib.hid h6; clear h6
        go_simp
        exact hK _ _ _ rfl ⟨hP, trivial⟩ trivial rfl
      refine calmSteps_cons (fun u wq n hn hn2 hC hk K hK => ?_) ?_
      · obtain ⟨hP, hTr⟩ := hC
        clear hk
        go_simp
        exact hK _ _ _ rfl ⟨hP, trivial⟩ trivial rfl
      refine calmSteps_cons (fun u wq n hn hn2 hC hk K hK => ?_) ?_
      · obtain ⟨hP, hTr⟩ := hC
        simp only [calmKnown, List.getElem?_cons_zero, List.getElem?_cons_succ, and_true, Is, Pure, Option.some.injEq, List.getD_cons_zero, List.getD_cons_succ, List.map_cons, List.map_nil] at hk
        have h8 := hk; clear hk
        simp only [h8] at hK ⊢
        have H8 := Lib.hid h8; clear h8
        have cB := (HB.out.below hP).cell; have lB := (HB.out.below hP).lt
        go_simp
        exact hK _ _ _ rfl ⟨hP, trivial⟩ trivial rfl
      refine calmSteps_cons (fun u wq n hn hn2 hC hk K hK => ?_) ?_
      · obtain ⟨hP, hTr⟩ := hC
        clear hk
        go_simp
        exact hK _ _ _ rfl ⟨hP, trivial⟩ trivial rfl
      refine calmSteps_cons (fun u wq n hn hn2 hC hk K hK => ?_) ?_
      · obtain ⟨hP, hTr⟩ := hC
        simp only [calmKnown, List.getElem?_cons_zero, List.getElem?_cons_succ, and_true, Is, Pure, Option.some.injEq, List.getD_cons_zero, List.getD_cons_succ, List.map_cons, List.map_nil] at hk
        have h10 := hk; clear hk
        simp only [h10] at hK ⊢
        have H10 := Lib.hid h10; clear h10
        go_wp2_with fail
        first | (with_reducible refine (up_rb _).mono ?_) | (with_reducible refine (down_rb _).mono ?_)
        rintro e w2 ⟨rfl, hbl⟩
        exact hK _ _ _ rfl ⟨kept_call hbl hP, trivial⟩ trivial rfl
      refine calmSteps_cons (fun u wq n hn hn2 hC hk K hK => ?_) ?_
      · obtain ⟨hP, hTr⟩ := hC
        simp only [calmKnown, List.getElem?_cons_zero, List.getElem?_cons_succ, and_true, Is, Pure, Option.some.injEq, List.getD_cons_zero, List.getD_cons_succ, List.map_cons, List.map_nil] at hk
        obtain ⟨h9, h11⟩ := hk
        simp only [h9, h11] at hK ⊢
        have H9 := Lib.hid h9; clear h9; have H11 := Lib.hid h11; clear h11
        go_simp
        exact hK _ _ _ rfl ⟨hP, trivial⟩ trivial rfl
      refine calmSteps_cons (fun u wq n hn hn2 hC hk K hK => ?_) ?_
      · obtain ⟨hP, hTr⟩ := hC
        simp only [calmKnown, List.getElem?_cons_zero, List.getElem?_cons_succ, and_true, Is, Pure, Option.some.injEq, List.getD_cons_zero, List.getD_cons_succ, List.map_cons, List.map_nil] at hk
        have h12 := hk; clear hk
        simp only [h12] at hK ⊢
        have H12 := Lib.hid h12; clear h12
        go_simp
        exact hK _ _ _ rfl ⟨hP, trivial⟩ trivial rfl
      refine calmSteps_cons (fun u wq n hn hn2 hC hk K hK => ?_) ?_
      · obtain ⟨hP, hTr⟩ := hC
        simp only [calmKnown, List.getElem?_cons_zero, List.getElem?_cons_succ, and_true, Is, Pure, Option.some.injEq, List.getD_cons_zero, List.getD_cons_succ, List.map_cons, List.map_nil] at hk
        have h7 := hk; clear hk
        simp only [h7] at hK ⊢
        have H7 := Lib.hid h7; clear h7
        go_simp
        exact hK _ _ _ rfl ⟨hP, trivial⟩ trivial rfl
      refine calmSteps_cons (fun u wq n hn hn2 hC hk K hK => ?_) ?_
      · obtain ⟨hP, hTr⟩ := hC
        simp only [calmKnown, List.getElem?_cons_zero, List.getElem?_cons_succ, and_true, Is, Pure, Option.some.injEq, List.getD_cons_zero, List.getD_cons_succ, List.map_cons, List.map_nil] at hk
        have h13 := hk; clear hk
        simp only [h13] at hK ⊢
        have H13 := Lib.hid h13; clear h13
        go_simp
        exact hK _ _ _ rfl ⟨hP, trivial⟩ trivial rfl
      exact calmSteps_nil
    · intro u w2 hC hF
      obtain ⟨hP, hTr⟩ := hC
      simp only [calmFacts, Is, and_true] at hF
      obtain ⟨f0, f1, f2, f3, f4, f5, f6, f7, f8, f9, f10, f11, f12, f13, f14, f15⟩ := hF
      simp only [f0, f1, f2, f3, f4, f5, f6, f7, f8, f9, f10, f11, f12, f13, f14, f15]
      clear f0 f1 f2 f3 f4 f5 f6 f7 f8 f9 f10 f11 f12 f13 f14 f15
      have K2 := hP
      have Z2 : w1.heap.size ≤ w2.heap.size := K2.size
      clear hP
      replace HK := Lib.hid (HK.out.below K2)
      replace HB := Lib.hid (HB.out.below K2)
      clear K2
      obtain ⟨w5, rfl⟩ : ∃ x : World, x = w2 := ⟨_, rfl⟩
      go_wp2
      go_loopg [8, 35] 1 (fun G v i wr => UnRel w5 v i G wr)
      case atStart => exact ⟨0, by omega, by omega, rfl, fun _ => rfl, fun h => absurd h (by decide), Below.refl _ _⟩
      case round =>
        obtain ⟨q, hq, rfl, rfl, h0, h1, KR⟩ := hrel
        have ZR := KR.size
        by_cases hq0 : q = 0
        · subst hq0
          obtain rfl := h0 rfl
          clear h0 h1
          have HKR := Lib.hid KR; clear KR
          obtain ⟨i0, hif, hz0, hz1, hz2⟩ := info_parts infoSpan
          rw [show ((0 : Nat) : Int) = 0 from rfl]
          go_wp2_with fail
          refine (stamp_now _).mono ?_
          rintro e w7 ⟨rfl, hb7⟩
          have K7 := Lib.hid (kept_call hb7 HKR.out); have Z7 := hb7.size
          clear hb7
          go_wp2_with (at_builtin; refine wpList_append_lies _ rfl _ _ 91 rfl w7.heap.size 40 i0 (.agg #[.int .i64 0, .int .i64 0]) 2 16 Tryz.underlying91 hif hz0 hz1 hz2 rfl (by decide) (.slice none 0 0) 0 [] rfl (World.ownsRow_nil _ _ _ _) ⟨w7.heap.size, 0, none⟩ 1 1 [.int .i64 4089446400000000, .int .i64 4089446400000000] rfl rfl (World.news_of_block (t := 40) (fr := (0, 0)) (Blk.new _ _ _)) ?c2 (by decide) ?c3 ?c4 ?c5 _ rfl ?_)
          case c2 => first | (intro u hu; simp at hu; done) | (intro u hu; simp at hu; subst hu; rfl) | (intro u hu; simp at hu; rcases hu with rfl | rfl <;> rfl) | exact ⟨rfl, rfl⟩
          case c3 => unfold maxLen; omega
          case c4 => omega
          case c5 => first | omega | (simp <;> omega)
          intro g8 c8 w8 hown hgrow hlie hglt
          have K8 : Below w5.heap.size w5 w8 := (K7.out.alloc (by omega) _).grown hgrow (by simp; omega) (fun k hk => by simp [Value.ownBlock] at hk)
          have hcells : w7.heap.size ≤ g8 ∧ w8.cell? ⟨g8, 0, none⟩ = some (.int .i64 4089446400000000) ∧ w8.cell? ⟨g8, 1, none⟩ = some (.int .i64 4089446400000000) := by
            rcases hown.2 with ⟨h, _⟩ | ⟨g, c, cur, h, hb, hg, _, _, _, ht⟩
            · cases h
            · have e : g8 = g := by injection h with h _ _; simpa using h
              subst e
              have hB : ∀ i, w8.cell? ⟨g8, i, none⟩ = cur[i]? := fun i => cell_of_row w8 g8 i cur 40 (0, 0) hg
              refine ⟨hb, ?_, ?_⟩
              · rw [hB, ← Array.getElem?_toList]
                have := congrArg (fun l : List Value => l[0]?) ht
                simpa [List.getElem?_take] using this
              · rw [hB, ← Array.getElem?_toList]
                have := congrArg (fun l : List Value => l[1]?) ht
                simpa [List.getElem?_take] using this
          have H8 := Lib.hid (And.intro hglt (And.intro hcells K8))
          clear hown hgrow hlie hglt hcells K8
          try rw [show 0 + 1 = 1 from rfl]
          go_wp2
          go_roundg 0
          case measure => omega
          case rel => exact ⟨1, by omega, by omega, rfl, fun h => absurd h (by decide), fun _ => ⟨g8, c8, rfl, by have := H8.out.2.1.1; omega, H8.out.1, H8.out.2.1.2.1, H8.out.2.1.2.2⟩, H8.out.2.2⟩
        · obtain rfl : q = 1 := by omega
          obtain ⟨g, c, rfl, hg, lg, e0, e1⟩ := h1 rfl
          have H9 := Lib.hid (And.intro e0 (And.intro e1 KR))
          clear h0 h1 KR e0 e1
          have Z5 := HK.out.b.size
          go_wp2
          go_ret2
          exact ⟨g, c, rfl, by omega, lg, H9.out.1, H9.out.2.1, kept_call H9.out.2.2 HK.out.b⟩
set_option maxRecDepth 100000 in
set_option maxHeartbeats 4000000 in
theorem only_now  (w : World) :
    Calls Tryz.prog 54 #[.agg #[.int .i64 4089446399999000, .int .i64 4089446400001000], .int .u64 16750372454400000000] w (RB w (.tuple #[.agg #[.int .i64 4089446400000000, .int .i64 4089446400000000], .int .i64 0])) := by
  have HK := Lib.hid (show Kp w w from Below.refl _ _)
  go_enter Tryz.func54, Tryz.ntmps54
  go_upto_region 0 with fail
  go_cut [2, 4] (fun v u wx => v = .pointer (some ⟨w.heap.size, 0, none⟩) ∧ u = .pointer (some ⟨w.heap.size + 1, 0, none⟩) ∧ Blk wx w.heap.size 40 #[.int .i64 4089446399999000, .int .i64 4089446400001000] ∧ Blk wx (w.heap.size + 1) 40 #[.int .i64 0, .int .i64 0] ∧ Below w.heap.size w wx)
  case first =>
    go_wp2_with fail
    go_meet
    exact ⟨rfl, rfl, by first | exact Blk.alloc (Blk.new _ _ _) _ | exact (Blk.new _ _ _).alloc _, by first | exact Blk.new1 _ _ _ _ | exact Blk.newE (by simp), (by (repeat' (first | (with_reducible exact Below.refl _ _) | (with_reducible refine Below.setCell ?_ ?_ _) | (with_reducible refine Below.alloc ?_ ?_ _) | (with_reducible refine Below.drew ?_) | (with_reducible refine below_drewN ?_ _))) <;> (first | omega | (simp <;> omega)))⟩
  case rest =>
    obtain ⟨rfl, rfl, hb, hr, KC⟩ := hcut
    have ZC := KC.size
    have lr := hr.lt
    have HB := Lib.hid hb; have HRB := Lib.hid hr; clear hb hr
    replace HK := Lib.hid (HK.out.below KC)
    clear KC
    obtain ⟨cb, fb, lb2, eb, kb⟩ := Blk.facts HB.out
    go_wp2_with fail
    refine (unfold_now _).mono ?_
    rintro e w1 ⟨g, c, rfl, hg, lg, e0, e1, hb1⟩
    have S1 : Below wc.heap.size wc w1 := kept_call hb1 (by (repeat' (first | (with_reducible exact Below.refl _ _) | (with_reducible refine Below.setCell ?_ ?_ _) | (with_reducible refine Below.alloc ?_ ?_ _) | (with_reducible refine Below.drew ?_) | (with_reducible refine below_drewN ?_ _))) <;> (first | omega | (simp <;> omega)))
    have Z1 := S1.size
    replace HK := Lib.hid (HK.out.below S1)
    replace HRB := Lib.hid (HRB.out.below S1)
    clear hb1
    clear cb fb lb2 eb kb S1 HB
    obtain ⟨cr, fr, lr2, er, kr⟩ := Blk.facts HRB.out
    have gne : g ≠ w.heap.size + 1 := by omega
    go_wp2
    exact bodyPost_ret (v := .tuple #[.agg #[.int .i64 4089446400000000, .int .i64 4089446400000000], .int .i64 0]) (by simp [results, Tryz.results54, go_sem, *]) rfl ⟨rfl, (by (repeat' (first | (with_reducible exact HK.out.b) | (with_reducible refine Below.setCell ?_ ?_ _) | (with_reducible refine Below.alloc ?_ ?_ _) | (with_reducible refine Below.drew ?_) | (with_reducible refine below_drewN ?_ _))) <;> (first | omega | (simp <;> omega)))⟩
set_option maxRecDepth 100000 in
set_option maxHeartbeats 4000000 in
theorem awake_any  (w : World) :
    Calls Tryz.prog 24 #[] w (RB w (.bool true)) := by
  obtain ⟨a, b, hab, hd⟩ : ∃ a b, atV 5 4089446400000000 4089446400000000 9 0 0 = .tuple #[.agg #[.int .i64 a, .int .i64 b], .int .i64 0] ∧ hdB a b 4089446400000004 = true := ⟨_, _, rfl, by decide +kernel⟩
  have RA := Lib.hid (fun W => hab ▸ at_any 5 4089446400000000 4089446400000000 9 0 0 W)
  have RH := Lib.hid (fun W => hd ▸ iholds_all a b 4089446400000004 W)
  clear hab hd
  have HK := Lib.hid (show Kp w w from Below.refl _ _)
  go_enter Tryz.func24, Tryz.ntmps24
  go_wp2_with fail
  refine (wire_now _).mono ?_
  rintro e w1 ⟨rfl, rfl⟩
  go_wp2_with fail
  refine (only_now _).mono ?_
  rintro e w1 ⟨rfl, hb1⟩
  have S1 : Below w.heap.size w w1 := kept_call hb1 (by (repeat' (first | (with_reducible exact Below.refl _ _) | (with_reducible refine Below.setCell ?_ ?_ _) | (with_reducible refine Below.alloc ?_ ?_ _) | (with_reducible refine Below.drew ?_) | (with_reducible refine below_drewN ?_ _))) <;> (first | omega | (simp <;> omega)))
  have Z1 := S1.size
  replace HK := Lib.hid (HK.out.below S1)
  clear hb1 S1
  go_wp2_with fail
  refine (RA.out _).mono ?_
  rintro e w2 ⟨rfl, hb2⟩
  have S2 : Below w1.heap.size w1 w2 := kept_call hb2 (by (repeat' (first | (with_reducible exact Below.refl _ _) | (with_reducible refine Below.setCell ?_ ?_ _) | (with_reducible refine Below.alloc ?_ ?_ _) | (with_reducible refine Below.drew ?_) | (with_reducible refine below_drewN ?_ _))) <;> (first | omega | (simp <;> omega)))
  have Z2 := S2.size
  have HS := Lib.hid (show Blk w2 w1.heap.size 40 #[.int .i64 4089446400000000, .int .i64 4089446400000000] from Blk.below (by first | exact Blk.new _ _ _ | exact setAll_blk [.int .i64 4089446400000000, .int .i64 4089446400000000] 0 _ #[.int .i64 0, .int .i64 0] (Blk.new _ _ _)) hb2)
  replace HK := Lib.hid (HK.out.below S2)
  clear hb2 S2
  obtain ⟨cs, fs, ls, es, ks⟩ := Blk.facts HS.out
  go_wp2_with fail
  refine (RH.out _).mono ?_
  rintro e w3 ⟨rfl, hb3⟩
  have S3 : Below w2.heap.size w2 w3 := kept_call hb3 (by (repeat' (first | (with_reducible exact Below.refl _ _) | (with_reducible refine Below.setCell ?_ ?_ _) | (with_reducible refine Below.alloc ?_ ?_ _) | (with_reducible refine Below.drew ?_) | (with_reducible refine below_drewN ?_ _))) <;> (first | omega | (simp <;> omega)))
  have Z3 := S3.size
  replace HK := Lib.hid (HK.out.below S3)
  replace HS := Lib.hid (HS.out.below S3)
  clear hb3 S3
  go_wp2
  go_ret
  exact ⟨rfl, HK.out.below (by (repeat' (first | (with_reducible exact Below.refl _ _) | (with_reducible refine Below.setCell ?_ ?_ _) | (with_reducible refine Below.alloc ?_ ?_ _) | (with_reducible refine Below.drew ?_) | (with_reducible refine below_drewN ?_ _))) <;> (first | omega | (simp <;> omega)))⟩
end Go.Proofs.YtiinmhfolfgobaaGreatDoor
