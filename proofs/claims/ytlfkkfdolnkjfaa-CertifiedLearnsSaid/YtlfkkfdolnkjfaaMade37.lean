/- The drawn knowledge of the laws of chapter 37: sectimelaw37.made. -/
import Derived.Deep.DrawnRows
import Derived.StillTailTactics
import Derived.Test.YtlfkkfdolnkjfaaCalmP
namespace Go.Proofs.Ytlfkkfdolnkjfaa
open Go.RowKit

/-- What made makes. -/
def KnownIn (at_ lo hi p l r : Int) : Prop := 0 ≤ at_ ∧ at_ < 50 ∧ -100 ≤ lo ∧ lo ≤ hi ∧ hi ≤ 200 ∧ 0 ≤ p ∧ p ≤ 1000000 ∧ 0 ≤ l ∧ l < 9 ∧ 0 ≤ r ∧ r < 3
def MadeF (v : Value) : Prop := ∃ at_ lo hi p l r : Int, v = .agg #[.int .i64 at_, .int .i64 lo, .int .i64 hi, .int .i64 p, .int .i64 l, .int .i64 r] ∧ KnownIn at_ lo hi p l r
def SpanF (v : Value) : Prop := ∃ lo hi : Int, v = .agg #[.int .i64 lo, .int .i64 hi] ∧ -100 ≤ lo ∧ lo ≤ hi ∧ hi ≤ 200
def MadeC (w : World) (b g0 : Nat) (n : Nat) (_ : List Value) (w' : World) : Prop := TapeAt w' b ∧ Past [b, g0] w w' ∧ g0 < w'.heap.size ∧ w.heap.size ≤ g0 ∧ b < g0 ∧ ∃ cs : Array Value, (n = 0 → cs = #[.int .i64 0, .int .i64 0, .int .i64 0, .int .i64 0, .int .i64 0, .int .i64 0]) ∧ Blk w' g0 72 cs ∧ (n = 1 → MadeF (.agg cs))

set_option maxRecDepth 100000 in
set_option maxHeartbeats 4000000 in
theorem made_any (b : Nat) (w : World) (h : TapeAt w b) : Calls Try.prog 41 #[.pointer (some ⟨b, 0, none⟩)] w fun e w' => ∃ at_ lo hi p l r : Int, e = .returned (.agg #[.int .i64 at_, .int .i64 lo, .int .i64 hi, .int .i64 p, .int .i64 l, .int .i64 r]) ∧ KnownIn at_ lo hi p l r ∧ TapeAt w' b ∧ w.grownBy w' (some b) := by
  have hb := h.lt
  have H := Lib.hid h; clear h
  go_enter Try.func41, Try.ntmps41
  go_wp2
  refine wp_region_calm (by kernel_rfl) (MadeC w b w.heap.size) (Past [b, w.heap.size]) [(Is (.pointer (some ⟨b, 0, none⟩))), (InR 0 50), (Is (.pointer (some ⟨b, 0, none⟩))), (Pure fun _ v => SpanF v), (SliceN [b, w.heap.size] 3 4 #[.int .i64 0, .int .i64 200, .int .i64 50000, .int .i64 1000000]), (Is (.pointer (some ⟨b, 0, none⟩))), (InR 0 4), (PtrN [b, w.heap.size] 3 4 #[.int .i64 0, .int .i64 200, .int .i64 50000, .int .i64 1000000]), (InR 0 1000001), (Is (.pointer (some ⟨b, 0, none⟩))), (InR 0 9), (Is (.pointer (some ⟨b, 0, none⟩))), (InR 0 3), (Pure fun _ v => MadeF v), (fun _ _ _ => True)] [[], [0], [], [2], [], [], [5], [4, 6], [7], [], [9], [], [11], [1, 3, 8, 10, 12], [13]] [14] [] rfl (by kernel_rfl) (fun u => by (simp only [calmPut, Act.put, List.setIfInBounds_toArray, List.set_cons_zero, List.set_cons_succ, Nat.zero_add, Nat.reduceAdd]; rfl)) ?_ (calmKeep_cons keep_is' (calmKeep_cons keep_inR (calmKeep_cons keep_is' (calmKeep_cons keep_pure (calmKeep_cons keep_sliceN (calmKeep_cons keep_is' (calmKeep_cons keep_inR (calmKeep_cons keep_ptrN (calmKeep_cons keep_inR (calmKeep_cons keep_is' (calmKeep_cons keep_inR (calmKeep_cons keep_is' (calmKeep_cons keep_inR (calmKeep_cons keep_pure (calmKeep_cons keep_triv (calmKeep_nil)))))))))))))))) ?_ ?_
  · exact fun _ => ⟨(H.out.alloc _).drew, (Past.alloc _ _ _).drew, by simp, Nat.le_refl _, hb, _, fun _ => rfl, (Blk.new _ _ _).drew, fun h => by cases h⟩
  · skip
    refine calmSteps_cons (fun u wq n hn hn2 hC hk K hK => ?_) ?_
    · obtain ⟨hT, hP, hg, hg1, hbg, cs, hcs, hB, hd⟩ := hC
      have HT := Lib.hid hT; have HP := Lib.hid hP; clear hT hP
      clear hk
      go_simp
      exact hK _ _ _ rfl ⟨HT.out, HP.out, hg, hg1, hbg, cs, hcs, hB, hd⟩ (Past.refl _ _) rfl
    refine calmSteps_cons (fun u wq n hn hn2 hC hk K hK => ?_) ?_
    · obtain ⟨hT, hP, hg, hg1, hbg, cs, hcs, hB, hd⟩ := hC
      have HT := Lib.hid hT; have HP := Lib.hid hP; clear hT hP
      simp only [calmKnown, List.getElem?_cons_zero, List.getElem?_cons_succ, and_true, Is] at hk
      have h0 := hk; clear hk
      simp only [h0] at hK ⊢
      clear h0
      go_wp2_with fail
      refine (int_any b 50 _ HT.out (by omega) (by omega)).mono ?_
      rintro e w2 ⟨v, rfl, v0, v1, ht, hgr⟩
      have hq := Past.grown (X := [b, w.heap.size]) hgr (by simp)
      exact hK _ _ _ rfl ⟨ht, HP.out.trans hq, Nat.lt_of_lt_of_le hg hq.1, hg1, hbg, cs, hcs, Blk.keepG hgr hB (by omega), hd⟩ hq ⟨v, rfl, v0, v1⟩
    refine calmSteps_cons (fun u wq n hn hn2 hC hk K hK => ?_) ?_
    · obtain ⟨hT, hP, hg, hg1, hbg, cs, hcs, hB, hd⟩ := hC
      have HT := Lib.hid hT; have HP := Lib.hid hP; clear hT hP
      clear hk
      go_simp
      exact hK _ _ _ rfl ⟨HT.out, HP.out, hg, hg1, hbg, cs, hcs, hB, hd⟩ (Past.refl _ _) rfl
    refine calmSteps_cons (fun u wq n hn hn2 hC hk K hK => ?_) ?_
    · obtain ⟨hT, hP, hg, hg1, hbg, cs, hcs, hB, hd⟩ := hC
      have HT := Lib.hid hT; have HP := Lib.hid hP; clear hT hP
      simp only [calmKnown, List.getElem?_cons_zero, List.getElem?_cons_succ, and_true, Is] at hk
      have h2 := hk; clear hk
      simp only [h2] at hK ⊢
      clear h2
      go_wp2_with fail
      refine (tspan_any b 100 _ HT.out (by omega) (by omega)).mono ?_
      rintro e w2 ⟨lo, hi, rfl, x1, x2, x3, x4, ht, hgr⟩
      have hq := Past.grown (X := [b, w.heap.size]) hgr (by simp)
      exact hK _ _ _ rfl ⟨ht, HP.out.trans hq, Nat.lt_of_lt_of_le hg hq.1, hg1, hbg, cs, hcs, Blk.keepG hgr hB (by omega), hd⟩ hq ⟨lo, hi, rfl, x1, x3, by omega⟩
    refine calmSteps_cons (fun u wq n hn hn2 hC hk K hK => ?_) ?_
    · obtain ⟨hT, hP, hg, hg1, hbg, cs, hcs, hB, hd⟩ := hC
      have HT := Lib.hid hT; have HP := Lib.hid hP; clear hT hP
      clear hk
      go_simp
      exact hK _ _ _ rfl ⟨HT.out.alloc _, HP.out.trans (Past.alloc _ _ _), by simp; omega, hg1, hbg, cs, hcs, hB.alloc _, hd⟩ (Past.alloc _ _ _) ⟨wq.heap.size, rfl, by simp; omega, Blk.new _ _ _⟩
    refine calmSteps_cons (fun u wq n hn hn2 hC hk K hK => ?_) ?_
    · obtain ⟨hT, hP, hg, hg1, hbg, cs, hcs, hB, hd⟩ := hC
      have HT := Lib.hid hT; have HP := Lib.hid hP; clear hT hP
      clear hk
      go_simp
      exact hK _ _ _ rfl ⟨HT.out, HP.out, hg, hg1, hbg, cs, hcs, hB, hd⟩ (Past.refl _ _) rfl
    refine calmSteps_cons (fun u wq n hn hn2 hC hk K hK => ?_) ?_
    · obtain ⟨hT, hP, hg, hg1, hbg, cs, hcs, hB, hd⟩ := hC
      have HT := Lib.hid hT; have HP := Lib.hid hP; clear hT hP
      simp only [calmKnown, List.getElem?_cons_zero, List.getElem?_cons_succ, and_true, Is] at hk
      have h5 := hk; clear hk
      simp only [h5] at hK ⊢
      clear h5
      go_wp2_with fail
      refine (int_any b 4 _ HT.out (by omega) (by omega)).mono ?_
      rintro e w2 ⟨v, rfl, v0, v1, ht, hgr⟩
      have hq := Past.grown (X := [b, w.heap.size]) hgr (by simp)
      exact hK _ _ _ rfl ⟨ht, HP.out.trans hq, Nat.lt_of_lt_of_le hg hq.1, hg1, hbg, cs, hcs, Blk.keepG hgr hB (by omega), hd⟩ hq ⟨v, rfl, v0, v1⟩
    refine calmSteps_cons (fun u wq n hn hn2 hC hk K hK => ?_) ?_
    · obtain ⟨hT, hP, hg, hg1, hbg, cs, hcs, hB, hd⟩ := hC
      have HT := Lib.hid hT; have HP := Lib.hid hP; clear hT hP
      simp only [calmKnown, List.getElem?_cons_zero, List.getElem?_cons_succ, and_true, Is] at hk
      obtain ⟨⟨g, h4, gn, gb⟩, ⟨x6, h6, p6, q6⟩⟩ := hk
      simp only [h4, h6] at hK ⊢
      clear h4 h6
      obtain rfl | rfl | rfl | rfl : x6 = 0 ∨ x6 = 1 ∨ x6 = 2 ∨ x6 = 3 := by omega
      all_goals
        go_simp
        exact hK _ _ _ rfl ⟨HT.out, HP.out, hg, hg1, hbg, cs, hcs, hB, hd⟩ (Past.refl _ _) ⟨g, _, rfl, by omega, gn, gb⟩
    refine calmSteps_cons (fun u wq n hn hn2 hC hk K hK => ?_) ?_
    · obtain ⟨hT, hP, hg, hg1, hbg, cs, hcs, hB, hd⟩ := hC
      have HT := Lib.hid hT; have HP := Lib.hid hP; clear hT hP
      simp only [calmKnown, List.getElem?_cons_zero, List.getElem?_cons_succ, and_true, Is] at hk
      obtain ⟨g, k, h7, hk, gn, gb⟩ := hk
      simp only [h7] at hK ⊢
      clear h7
      have hc := gb.cell
      obtain rfl | rfl | rfl | rfl : k = 0 ∨ k = 1 ∨ k = 2 ∨ k = 3 := by omega
      all_goals
        go_simp
        exact hK _ _ _ rfl ⟨HT.out, HP.out, hg, hg1, hbg, cs, hcs, hB, hd⟩ (Past.refl _ _) ⟨_, rfl, by omega, by omega⟩
    refine calmSteps_cons (fun u wq n hn hn2 hC hk K hK => ?_) ?_
    · obtain ⟨hT, hP, hg, hg1, hbg, cs, hcs, hB, hd⟩ := hC
      have HT := Lib.hid hT; have HP := Lib.hid hP; clear hT hP
      clear hk
      go_simp
      exact hK _ _ _ rfl ⟨HT.out, HP.out, hg, hg1, hbg, cs, hcs, hB, hd⟩ (Past.refl _ _) rfl
    refine calmSteps_cons (fun u wq n hn hn2 hC hk K hK => ?_) ?_
    · obtain ⟨hT, hP, hg, hg1, hbg, cs, hcs, hB, hd⟩ := hC
      have HT := Lib.hid hT; have HP := Lib.hid hP; clear hT hP
      simp only [calmKnown, List.getElem?_cons_zero, List.getElem?_cons_succ, and_true, Is] at hk
      have h9 := hk; clear hk
      simp only [h9] at hK ⊢
      clear h9
      go_wp2_with fail
      refine (int_any b 9 _ HT.out (by omega) (by omega)).mono ?_
      rintro e w2 ⟨v, rfl, v0, v1, ht, hgr⟩
      have hq := Past.grown (X := [b, w.heap.size]) hgr (by simp)
      exact hK _ _ _ rfl ⟨ht, HP.out.trans hq, Nat.lt_of_lt_of_le hg hq.1, hg1, hbg, cs, hcs, Blk.keepG hgr hB (by omega), hd⟩ hq ⟨v, rfl, v0, v1⟩
    refine calmSteps_cons (fun u wq n hn hn2 hC hk K hK => ?_) ?_
    · obtain ⟨hT, hP, hg, hg1, hbg, cs, hcs, hB, hd⟩ := hC
      have HT := Lib.hid hT; have HP := Lib.hid hP; clear hT hP
      clear hk
      go_simp
      exact hK _ _ _ rfl ⟨HT.out, HP.out, hg, hg1, hbg, cs, hcs, hB, hd⟩ (Past.refl _ _) rfl
    refine calmSteps_cons (fun u wq n hn hn2 hC hk K hK => ?_) ?_
    · obtain ⟨hT, hP, hg, hg1, hbg, cs, hcs, hB, hd⟩ := hC
      have HT := Lib.hid hT; have HP := Lib.hid hP; clear hT hP
      simp only [calmKnown, List.getElem?_cons_zero, List.getElem?_cons_succ, and_true, Is] at hk
      have h11 := hk; clear hk
      simp only [h11] at hK ⊢
      clear h11
      go_wp2_with fail
      refine (int_any b 3 _ HT.out (by omega) (by omega)).mono ?_
      rintro e w2 ⟨v, rfl, v0, v1, ht, hgr⟩
      have hq := Past.grown (X := [b, w.heap.size]) hgr (by simp)
      exact hK _ _ _ rfl ⟨ht, HP.out.trans hq, Nat.lt_of_lt_of_le hg hq.1, hg1, hbg, cs, hcs, Blk.keepG hgr hB (by omega), hd⟩ hq ⟨v, rfl, v0, v1⟩
    refine calmSteps_cons (fun u wq n hn hn2 hC hk K hK => ?_) ?_
    · obtain ⟨hT, hP, hg, hg1, hbg, cs, hcs, hB, hd⟩ := hC
      have HT := Lib.hid hT; have HP := Lib.hid hP; clear hT hP
      simp only [calmKnown, List.getElem?_cons_zero, List.getElem?_cons_succ, and_true, Is] at hk
      obtain ⟨⟨x1, h1, p1, q1⟩, ⟨lo, hi, h3, s1, s2, s3⟩, ⟨x8, h8, p8, q8⟩, ⟨x10, h10, p10, q10⟩, ⟨x12, h12, p12, q12⟩⟩ := hk
      simp only [h1, h3, h8, h10, h12] at hK ⊢
      clear h1 h3 h8 h10 h12
      go_simp
      exact hK _ _ _ rfl ⟨HT.out, HP.out, hg, hg1, hbg, cs, hcs, hB, hd⟩ (Past.refl _ _) ⟨x1, lo, hi, x8, x10, x12, rfl, p1, by omega, s1, s2, s3, p8, by omega, p10, q10, p12, q12⟩
    refine calmSteps_cons (fun u wq n hn hn2 hC hk K hK => ?_) ?_
    · obtain ⟨hT, hP, hg, hg1, hbg, cs, hcs, hB, hd⟩ := hC
      have HT := Lib.hid hT; have HP := Lib.hid hP; clear hT hP
      simp only [calmKnown, List.getElem?_cons_zero, List.getElem?_cons_succ, and_true, Is] at hk
      obtain ⟨at_, lo, hi, p, l, r, h13, hkn⟩ := hk
      simp only [h13] at hK ⊢
      clear h13
      obtain rfl := hn 0 rfl
      obtain rfl := hcs rfl
      have hf := hB.frozen
      have hc := hB.cell
      go_simp
      have hB2 := (((((hB.set_ 0 (.int .i64 at_)).set_ 1 (.int .i64 lo)).set_ 2 (.int .i64 hi)).set_ 3 (.int .i64 p)).set_ 4 (.int .i64 l)).set_ 5 (.int .i64 r)
      have hq : Past [b, w.heap.size] wq ((((((wq.setCell ⟨w.heap.size, 0, none⟩ (.int .i64 at_)).setCell ⟨w.heap.size, 1, none⟩ (.int .i64 lo)).setCell ⟨w.heap.size, 2, none⟩ (.int .i64 hi)).setCell ⟨w.heap.size, 3, none⟩ (.int .i64 p)).setCell ⟨w.heap.size, 4, none⟩ (.int .i64 l)).setCell ⟨w.heap.size, 5, none⟩ (.int .i64 r)) := (((((Past.set (by simp) _).trans (Past.set (by simp) _)).trans (Past.set (by simp) _)).trans (Past.set (by simp) _)).trans (Past.set (by simp) _)).trans (Past.set (by simp) _)
      exact hK _ undef _ rfl ⟨(((((HT.out.set hbg _).set hbg _).set hbg _).set hbg _).set hbg _).set hbg _, HP.out.trans hq, Nat.lt_of_lt_of_le hg hq.1, hg1, hbg, _, fun h => by simp at h, hB2, fun _ => ⟨at_, lo, hi, p, l, r, rfl, hkn⟩⟩ hq trivial
    exact calmSteps_nil
  · intro u w' hC hF
    clear hF
    obtain ⟨hT, hP, hg, hg1, hbg, cs, hcs, hB, hd⟩ := hC
    obtain ⟨at_, lo, hi, p, l, r, he, hkn⟩ := hd rfl
    obtain rfl : cs = _ := by injection he
    have hT2 := Lib.hid hT; have hP2 := Lib.hid hP; clear hT hP hd hcs he
    have hc := hB.cell
    go_wp2
    exact bodyPost_ret (v := .agg #[.int .i64 at_, .int .i64 lo, .int .i64 hi, .int .i64 p, .int .i64 l, .int .i64 r]) (by simp [results, Try.results41, go_sem, *]) rfl ⟨at_, lo, hi, p, l, r, rfl, hkn, hT2.out, hP2.out.grownBy (Nat.le_refl _)⟩
end Go.Proofs.Ytlfkkfdolnkjfaa
