/- The program's hash of a short message. -/
import Derived.Test.YtlnboheahbfgfaaSha3
import Derived.Test.YtlnboheahbfgfaaSha6
namespace Go.Proofs.Ytlnboheahbfgfaa
open Go.RowKit
set_option linter.unusedSimpArgs false
set_option linter.unusedVariables false

theorem below_on {B : Nat} {a w w' : World} (h : Below B a w) (hb : Below w.heap.size w w') (hB : B ≤ w.heap.size) : Below B a w' := h.trans ⟨hb.os, hb.tape, hb.output, hb.size, fun k hk => hb.block k (Nat.lt_of_lt_of_le hk hB)⟩
theorem below_less {B B' : Nat} {a w : World} (h : Below B a w) (hB : B' ≤ B) : Below B' a w := ⟨h.os, h.tape, h.output, h.size, fun k hk => h.block k (Nat.lt_of_lt_of_le hk hB)⟩
theorem Blk.on {B : Nat} {w w' : World} {g : Nat} {T : TypeId} {cs : Array Value} (h : Blk w g T cs) (hb : Below B w w') (hg : g < B) : Blk w' g T cs := (hb.block g hg).trans h
theorem BySl.on {B : Nat} {w w' : World} {g off : Nat} {bs : List Int} (h : BySl w g off bs) (hb : Below B w w') (hg : g < B) : BySl w' g off bs :=
  ⟨Nat.lt_of_lt_of_le h.1 hb.size, fun j hj => (hb.cell (p := ⟨g, off + j, none⟩) hg).trans (h.2 j hj)⟩
theorem BySl.blk {w : World} {g : Nat} {T : TypeId} {bs : List Int} (h : Blk w g T (bcells bs).toArray) : BySl w g 0 bs :=
  ⟨h.lt, fun j hj => by rw [Nat.zero_add, h.cell]; simpa using bcells_get bs j hj⟩
theorem zeros128 : Array.replicate 128 (Value.int .u8 0) = (bcells (List.replicate 128 0)).toArray := by
  apply Array.ext'; simp [bcells]
set_option maxRecDepth 100000 in
theorem zero128 (W : World) : (zeroValue 57).run Try.prog W = .ok (.agg (Array.replicate 128 (.int .u8 0))) W := by
  first
  | rfl
  | (unfold zeroValue; simp only [Sem.run_bind, Try.typeInfo57, Result.andThen_ok]; rfl)
set_option maxRecDepth 100000 in
set_option maxHeartbeats 4000000 in
theorem hfinish_any (gb ob cb n : Nat) (s : St8) (bs : List Int) (hs : s.ok) (hn : bs.length = n) (n0 : 0 < n) (n1 : n ≤ 55) (hb : InB bs) (w : World) (b : BySl w gb ob bs) :
    Calls Try.prog 24 #[.agg s.cells, .slice (some ⟨gb, ob, none⟩) n cb, .int .i64 n] w (FinR w (outQ (blkS kS (padS bs) s) 8)) := by
  have HB := Lib.hid b
  have hgb := b.1
  clear b
  obtain ⟨i0, hif, hz0, hz1, hz2⟩ := info_parts infoU8
  obtain ⟨S1, hS1⟩ : ∃ S1, blkS kS (padS bs) s = S1 := ⟨_, rfl⟩
  have h1ok : S1.ok := hS1 ▸ blkS_ok _ _ _
  rw [hS1]
  have HS1 := Lib.hid (show ∃ f, f = blkS ∧ f kS (padS bs) s = S1 from ⟨_, rfl, hS1⟩); clear hS1
  obtain ⟨R, hR⟩ : ∃ R, outQ S1 8 = R := ⟨_, rfl⟩
  rw [hR]
  have HRR := Lib.hid (show ∃ k, k = 8 ∧ outQ S1 k = R from ⟨_, rfl, hR⟩); clear hR
  have HN := Lib.hid hn; have HIB := Lib.hid hb; have HSO := Lib.hid hs; have H1O := Lib.hid h1ok; clear hn hb hs h1ok
  obtain ⟨s0, hs0⟩ : ∃ s0, s = s0 := ⟨_, rfl⟩
  obtain ⟨c0, c1, c2, c3, c4, c5, c6, c7⟩ := s
  dsimp only [St8.cells]
  have hz8 := zero128
  go_enter Try.func24, Try.ntmps24
  go_upto_region 1 with fail
  go_cut [3, 7] (fun a c wx => a = .pointer (some ⟨w.heap.size, 0, none⟩) ∧ c = .pointer (some ⟨w.heap.size + 1, 0, none⟩) ∧ Blk wx w.heap.size 44 #[.int .u32 c0, .int .u32 c1, .int .u32 c2, .int .u32 c3, .int .u32 c4, .int .u32 c5, .int .u32 c6, .int .u32 c7] ∧ Blk wx (w.heap.size + 1) 57 (bcells (List.replicate 128 0)).toArray ∧ Below w.heap.size w wx)
  case first =>
    go_wp2_with fail
    go_meet
    exact ⟨rfl, rfl, by first | exact (Blk.new _ _ _).alloc _ | exact Blk.alloc (Blk.new _ _ _) _, by first | (rw [← zeros128]; first | exact Blk.new1 _ _ _ _ | exact Blk.newE (by simp)) | exact Blk.new1 _ _ _ _, (by (repeat' (first | (with_reducible exact Below.refl _ _) | (with_reducible refine Below.setCell ?_ ?_ _) | (with_reducible refine Below.alloc ?_ ?_ _) | (with_reducible refine Below.drew ?_) | (with_reducible refine below_drewN ?_ _))) <;> (first | omega | (simp <;> omega)))⟩
  case rest =>
    obtain ⟨rfl, rfl, hbh, hb1, KC⟩ := hcut
    have ZC := KC.size
    obtain ⟨g1, hg1⟩ : ∃ g, w.heap.size + 1 = g := ⟨_, rfl⟩
    rw [hg1] at hb1 ⊢
    have lg1 := hb1.lt
    have HBH := Lib.hid hbh; have HB1 := Lib.hid hb1; have HBB := Lib.hid (HB.out.below KC); have HC := Lib.hid KC
    clear hbh hb1 KC
    go_wp2_with (refine wpList_copy_splice rfl (.tmp 13) (.tmp 14) _ _ rfl 5 Try.underlying22 (by rfl) (some ⟨g1, 0, none⟩) (some ⟨gb, ob, none⟩) 128 128 n cb rfl rfl g1 0 (bcells (List.replicate 128 0)) 57 HB1.out (bcells bs) (by rw [bcells_length, HN.out]; exact (Nat.min_eq_left (by omega)).symm) (fun _ => ⟨rfl, _, rfl, news_bytes HBB.out⟩) (by rw [bcells_length, bcells_length, HN.out, List.length_replicate]; omega) (one_bytes _) g1 wc (Below.refl _ _) (Nat.le_refl _) ?_)
    intro w2 HG2 hB2
    obtain ⟨L1, hL1⟩ : ∃ L, splice (List.replicate 128 (0 : Int)) 0 bs = L := ⟨_, rfl⟩
    have hL1l : L1.length = 128 := by rw [← hL1]; exact end1_len bs (by rw [HN.out]; exact n1)
    have hb2 : Blk w2 g1 57 (bcells L1).toArray := by rw [← hL1, ← bcells_splice]; exact HG2.out
    rw [show (bcells bs).length = n from by rw [bcells_length, HN.out]]
    have hcell : w2.cell? ⟨g1, n, none⟩ = some (.int .u8 (L1.getD n 0)) := (hb2.cell n).trans (by simpa using bcells_get L1 n (by omega))
    have lg2 := hb2.lt; have yf := hb2.frozen; have ZC2 := hB2.size
    have HL1 := Lib.hid hL1; have HB2 := Lib.hid hb2; have HK2 := Lib.hid hB2; have HL1l := Lib.hid hL1l
    clear hL1 hb2 HG2 hB2 hL1l HB1
    have wn9 : IntKind.i64.wrap ((n : Int) + 9) = (n : Int) + 9 := IntWalk.i64_in _ (by omega)
    have g9 : decide (64 < (n : Int) + 9) = false := decide_eq_false (by omega)
    have p128 : (n : Int) < 128 := by omega
    have p128n : n < 128 := by omega
    have d128 : decide ((n : Int) < 128) = true := decide_eq_true p128
    go_wp2_with fail
    obtain ⟨w3, hw3⟩ : ∃ x, x = w2.setCell ⟨g1, n, none⟩ (.int .u8 128) := ⟨_, rfl⟩
    rw [← hw3]
    obtain ⟨L2, hL2⟩ : ∃ L, L1.set n 128 = L := ⟨_, rfl⟩
    have hb3 : Blk w3 g1 57 (bcells L2).toArray := by rw [hw3, ← hL2, ← bcells_set]; exact HB2.out.set_ n _
    have hL2l : L2.length = 128 := by rw [← hL2, List.length_set]; exact HL1l.out
    have hK3 : Below g1 wc w3 := by rw [hw3]; exact HK2.out.setCell (Nat.le_refl _) _
    have HL2 := Lib.hid hL2; have HB3 := Lib.hid hb3; have HK3 := Lib.hid hK3; have HL2l := Lib.hid hL2l
    have lg3 := hb3.lt; have ZC3 := hK3.size
    clear hw3 hL2 hb3 hK3 hL2l HB2 HK2 hcell yf lg2 ZC2 wn9 g9
    have wu : IntKind.u64.wrap (n : Int) = (n : Int) := by simp [IntKind.wrap, IntKind.bits, IntKind.signed]; omega
    obtain ⟨m8, hm8⟩ : ∃ m : Int, 8 * (n : Int) = m := ⟨_, rfl⟩
    have wm : IntKind.u64.wrap ((n : Int) * 8) = m8 := by simp [IntKind.wrap, IntKind.bits, IntKind.signed]; omega
    have m80 : 0 ≤ m8 := by omega
    have m81 : m8 < 1000 := by omega
    have HM8 := Lib.hid hm8; clear hm8
    refine' wp_region_calm (by kernel_rfl) (fun n us w' => Below g1 wc w' ∧ (n = 0 → Below w3.heap.size w3 w') ∧ (n = 1 → (∃ gp, us[0]? = some (.slice (some ⟨gp, 0, none⟩) 8 8) ∧ BySl w' gp 0 (putB m8 8)) ∧ Blk w' g1 57 (bcells L2).toArray) ∧ (n = 2 → Blk w' g1 57 (bcells (splice L2 56 (putB m8 8))).toArray)) (fun _ _ => True) [(Is _), (Is _), (Is _), (Is _), (Is _), (Is _), (fun _ v _ => ∃ g, v = .slice (some ⟨g, 0, none⟩) 8 8), (fun _ _ _ => True)] [[], [0], [1], [], [3], [4], [5], [2, 6]] [6, 7] [6] rfl (by kernel_rfl) (fun u => by (simp only [calmPut, Act.put, List.setIfInBounds_toArray, List.set_cons_zero, List.set_cons_succ, Nat.zero_add, Nat.reduceAdd]; rfl)) ?_ (calmKeep_cons keep_is' (calmKeep_cons keep_is' (calmKeep_cons keep_is' (calmKeep_cons keep_is' (calmKeep_cons keep_is' (calmKeep_cons keep_is' (calmKeep_cons (fun _ _ _ _ _ h => h) (calmKeep_cons keep_triv (calmKeep_nil))))))))) ?_ ?_
    · intro _
      exact ⟨(by first | exact HK3.out | exact HK3.out.drew), (fun _ => (Below.refl _ _).drew), (fun h => absurd h (by decide)), (fun h => absurd h (by decide))⟩
    rotate_left 6
    · skip
      refine calmSteps_cons (fun u wq n hn hn2 hC hk K hK => ?_) ?_
      · obtain ⟨hP, hR0, hR1, hR2⟩ := hC
        clear hk
        go_simp
        exact hK _ _ _ rfl ⟨hP, hR0, hR1, hR2⟩ trivial rfl
      refine calmSteps_cons (fun u wq n hn hn2 hC hk K hK => ?_) ?_
      · obtain ⟨hP, hR0, hR1, hR2⟩ := hC
        simp only [calmKnown, List.getElem?_cons_zero, List.getElem?_cons_succ, and_true, Is, Pure, Option.some.injEq, List.getD_cons_zero, List.getD_cons_succ, List.map_cons, List.map_nil] at hk
        have h0 := hk; clear hk
        simp only [h0] at hK ⊢
        have H0 := Lib.hid h0; clear h0
        go_simp
        exact hK _ _ _ rfl ⟨hP, hR0, hR1, hR2⟩ trivial rfl
      refine calmSteps_cons (fun u wq n hn hn2 hC hk K hK => ?_) ?_
      · obtain ⟨hP, hR0, hR1, hR2⟩ := hC
        simp only [calmKnown, List.getElem?_cons_zero, List.getElem?_cons_succ, and_true, Is, Pure, Option.some.injEq, List.getD_cons_zero, List.getD_cons_succ, List.map_cons, List.map_nil] at hk
        have h1 := hk; clear hk
        simp only [h1] at hK ⊢
        have H1 := Lib.hid h1; clear h1
        go_simp
        exact hK _ _ _ rfl ⟨hP, hR0, hR1, hR2⟩ trivial rfl
      refine calmSteps_cons (fun u wq n hn hn2 hC hk K hK => ?_) ?_
      · obtain ⟨hP, hR0, hR1, hR2⟩ := hC
        clear hk
        go_simp
        exact hK _ _ _ rfl ⟨hP, hR0, hR1, hR2⟩ trivial rfl
      refine calmSteps_cons (fun u wq n hn hn2 hC hk K hK => ?_) ?_
      · obtain ⟨hP, hR0, hR1, hR2⟩ := hC
        simp only [calmKnown, List.getElem?_cons_zero, List.getElem?_cons_succ, and_true, Is, Pure, Option.some.injEq, List.getD_cons_zero, List.getD_cons_succ, List.map_cons, List.map_nil] at hk
        have h3 := hk; clear hk
        simp only [h3] at hK ⊢
        have H3 := Lib.hid h3; clear h3
        go_simp
        exact hK _ _ _ rfl ⟨hP, hR0, hR1, hR2⟩ trivial rfl
      refine calmSteps_cons (fun u wq n hn hn2 hC hk K hK => ?_) ?_
      · obtain ⟨hP, hR0, hR1, hR2⟩ := hC
        simp only [calmKnown, List.getElem?_cons_zero, List.getElem?_cons_succ, and_true, Is, Pure, Option.some.injEq, List.getD_cons_zero, List.getD_cons_succ, List.map_cons, List.map_nil] at hk
        have h4 := hk; clear hk
        simp only [h4] at hK ⊢
        have H4 := Lib.hid h4; clear h4
        go_simp
        exact hK _ _ _ rfl ⟨hP, hR0, hR1, hR2⟩ trivial rfl
      refine calmSteps_cons (fun u wq n hn hn2 hC hk K hK => ?_) ?_
      · obtain ⟨hP, hR0, hR1, hR2⟩ := hC
        simp only [calmKnown, List.getElem?_cons_zero, List.getElem?_cons_succ, and_true, Is, Pure, Option.some.injEq, List.getD_cons_zero, List.getD_cons_succ, List.map_cons, List.map_nil] at hk
        have h5 := hk; clear hk
        simp only [h5] at hK ⊢
        have H5 := Lib.hid h5; clear h5
        obtain rfl := hn 0 rfl
        have hQ := hR0 rfl
        have hZ := hQ.size
        clear hR0 hR1 hR2
        go_wp2_with fail
        refine (oput_any m8 8 (by omega) (by omega) (by decide) (by decide) _).mono ?_
        rintro e w9 ⟨gp, rfl, hgp, hlp, hby, hb9⟩
        exact hK _ _ _ rfl ⟨below_on hP hb9 (by omega), (fun h => absurd h (by decide)), (fun _ => ⟨⟨gp, rfl, hby.sl⟩, (HB3.out.below hQ).below hb9⟩), (fun h => absurd h (by decide))⟩ trivial ⟨_, rfl⟩
      refine calmSteps_cons (fun u wq n hn hn2 hC hk K hK => ?_) ?_
      · obtain ⟨hP, hR0, hR1, hR2⟩ := hC
        simp only [calmKnown, List.getElem?_cons_zero, List.getElem?_cons_succ, and_true, Is, Pure, Option.some.injEq, List.getD_cons_zero, List.getD_cons_succ, List.map_cons, List.map_nil] at hk
        obtain ⟨h2, ⟨g9, e9⟩⟩ := hk
        simp only [h2] at hK ⊢
        have H2 := Lib.hid h2; clear h2
        obtain rfl := hn 1 rfl
        obtain ⟨⟨gp, e6, hby⟩, hB⟩ := hR1 rfl
        clear e9 hR0 hR1 hR2
        have e6' : u 6 = .slice (some ⟨gp, 0, none⟩) 8 8 := by simpa using e6
        clear e6
        simp only [e6'] at hK ⊢
        have E6 := Lib.hid e6'; clear e6'
        refine calm_op (by rfl) ?_
        refine wp_copy_splice rfl _ _ _ _ rfl 5 Try.underlying22 (by rfl) (some ⟨g1, 56, none⟩) (some ⟨gp, 0, none⟩) 72 72 8 8 (by rfl) (by rfl) g1 56 (bcells L2) 57 hB (bcells (putB m8 8)) (by rw [bcells_length, putB_length]; rfl) (fun _ => ⟨rfl, _, rfl, news_bytes hby⟩) (by rw [bcells_length, bcells_length, putB_length, HL2l.out]; omega) (one_bytes _) g1 wc hP (Nat.le_refl _) ?_
        intro w9 hH hb9
        exact hK _ _ _ rfl ⟨hb9, (fun h => absurd h (by decide)), (fun h => absurd h (by decide)), fun _ => by rw [← bcells_splice]; exact hH.out⟩ trivial trivial
      exact calmSteps_nil
    · intro u w4 hC hF
      obtain ⟨hP, -, -, hR2⟩ := hC
      have hb4 := hR2 rfl
      clear hF hR2
      have ZC4 := hP.size; have lg4 := hb4.lt
      obtain ⟨P, hPd⟩ : ∃ P, padS bs = P := ⟨_, rfl⟩
      have hPl : P.length = 64 := by rw [← hPd]; exact padS_len bs (by rw [HN.out]; exact n1)
      have hPi : InB P := hPd ▸ padS_in HIB.out
      have hbp : BySl w4 g1 0 P := by
        have h := (BySl.blk hb4).head 64 (by rw [length_splice _ _ _ (by rw [HL2l.out, putB_length]; omega), HL2l.out]; omega)
        rw [← HL2.out, ← HL1.out, ← HN.out, ← HM8.out, ← HN.out] at h
        rw [← hPd, ← endS_take bs (by rw [HN.out]; exact n1)]
        exact h
      have hbh4 : Blk w4 w.heap.size 44 (⟨c0, c1, c2, c3, c4, c5, c6, c7⟩ : St8).cells := HBH.out.on hP (by omega)
      have K4 : Below w.heap.size w w4 := HC.out.trans (below_less hP (by omega))
      have Z4 := K4.size
      have HBH4 := Lib.hid hbh4; have HBP := Lib.hid hbp; have HK4 := Lib.hid K4; have HPD := Lib.hid hPd; have HPL := Lib.hid (And.intro hPl hPi)
      clear hbh4 hbp K4 hPd hPl hPi hb4 hP HB3 HK3 HBH HC HBB HL1 HL2 HL2l HL1l HB HM8
      go_wp2_with fail
      refine (whole64_any w.heap.size g1 128 ⟨c0, c1, c2, c3, c4, c5, c6, c7⟩ P HSO.out HPL.out.1 HPL.out.2 (by decide) _ HBH4.out HBP.out).mono ?_
      rintro e w5 ⟨⟨v5, rfl⟩, hb5, hG5⟩
      rw [show blkS kS P ⟨c0, c1, c2, c3, c4, c5, c6, c7⟩ = S1 from by obtain ⟨f, rfl, h⟩ := HS1.out; rw [← HPD.out]; exact h] at hb5
      have K5 : Below w.heap.size w w5 := below_grown2 HK4.out hG5 (Nat.le_refl _)
      have Z5 := K5.size
      obtain ⟨d0, d1, d2, d3, d4, d5, d6, d7⟩ := S1
      dsimp only [St8.cells] at hb5
      have HB5 := Lib.hid hb5; have HK5 := Lib.hid K5
      clear hb5 hG5 K5 HBH4 HBP HK4 HPD HPL HS1 ZC4 lg4 ZC3 lg3 lg1 ZC
      go_wp2_with (at_make; refine wpList_make_own _ rfl _ _ 22 rfl w5.heap.size 5 i0 (.int .u8 0) 1 Try.underlying22 hif hz0 hz1 .i64 .i64 _ 32 rfl rfl rfl (by rw [hz2]; decide) (by decide) (Nat.le_refl _) ?_)
      intro w6 hown hgrow
      have K6 : Below w5.heap.size w5 w6 := (Below.refl _ _).grown hgrow (Nat.le_refl _) (fun k hk => by cases hk)
      have hb6 := HB5.out.below K6
      have z6 := hb6.cell; have l6 := hb6.lt; have Z6 := K6.size
      have HR6 := Lib.hid (show ByRow w6 w5.heap.size (.slice (some ⟨w5.heap.size, 0, none⟩) 0 32) [] from hown); have HK6 := Lib.hid K6
      clear hown hgrow K6 hb6 HB5
      go_wp2
      go_loopg [10, 34] 8 (fun G v i wr => OtRel w5 ⟨d0, d1, d2, d3, d4, d5, d6, d7⟩ G v i wr)
      case atStart => exact ⟨0, by omega, by omega, rfl, HR6.out, ⟨_, _, _, rfl⟩, HK6.out⟩
      case round =>
        obtain ⟨q, hq, rfl, rfl, hrow, ⟨A, m, d, rfl⟩, KR⟩ := hrel
        have ZY := KR.size
        clear HR6 HK6 z6 l6
        have HROW := Lib.hid hrow; have HKR := Lib.hid KR
        clear hrow KR
        by_cases hlt : q < 8
        · have gq : decide ((q : Int) < 8) = true := decide_eq_true (by omega)
          have gqn : decide (q < 8) = true := decide_eq_true hlt
          have pq : (q : Int) < 8 := by omega
          have wq : IntKind.i64.wrap ((q : Int) + 1) = ((q + 1 : Nat) : Int) := by rw [IntWalk.i64_in _ (by omega)]; omega
          have hix : ∀ W, (Instr.index 44 (.agg #[.int .u32 d0, .int .u32 d1, .int .u32 d2, .int .u32 d3, .int .u32 d4, .int .u32 d5, .int .u32 d6, .int .u32 d7]) (.int .i64 (q : Int))).run Try.prog W = .ok (.int .u32 ((⟨d0, d1, d2, d3, d4, d5, d6, d7⟩ : St8).at8 q)) W := by
            intro W
            rcases lt8 hlt with rfl | rfl | rfl | rfl | rfl | rfl | rfl | rfl <;> rfl
          have hx := at8_in H1O.out q
          have hol := outQ_len (⟨d0, d1, d2, d3, d4, d5, d6, d7⟩ : St8) q
          have hst : outQ (⟨d0, d1, d2, d3, d4, d5, d6, d7⟩ : St8) (q + 1) = outQ (⟨d0, d1, d2, d3, d4, d5, d6, d7⟩ : St8) q ++ putB ((⟨d0, d1, d2, d3, d4, d5, d6, d7⟩ : St8).at8 q) 4 := rfl
          generalize (⟨d0, d1, d2, d3, d4, d5, d6, d7⟩ : St8).at8 q = x at *
          obtain ⟨S9, hS9⟩ : ∃ S9 : St8, ⟨d0, d1, d2, d3, d4, d5, d6, d7⟩ = S9 := ⟨_, rfl⟩
          have hrow := HROW.out
          rw [hS9] at hrow hol hst
          have HS9 := Lib.hid hS9; clear hS9
          have HRW := Lib.hid hrow; have HST := Lib.hid hst; have HOL := Lib.hid hol; clear hst hol HROW
          have hlt0 := hrow.own
          clear hrow
          generalize hv : (Value.slice A m d) = v at *
          have HV := Lib.hid hv; clear hv
          go_wp2_with (at_builtin; refine wpList_append_lies _ rfl _ _ 22 rfl w5.heap.size 5 i0 (.int .u8 0) 1 1 Try.underlying22 hif hz0 hz1 hz2 rfl (by decide) v (outQ S9 q).length (bcells (outQ S9 q)) rfl (HRW.out.below ((Below.refl _ _).alloc (Nat.le_refl _) _)) ⟨wr.heap.size, 0, none⟩ 4 4 (bcells [x / 16777216, x / 65536 % 256, x / 256 % 256, x % 256]) rfl rfl (news_blk (Blk.new _ _ _)) (one_bytes _) ?c2 ?c3 ?c4 ?c5 _ rfl ?_)
          case c2 => omega
          case c3 => have := HOL.out; unfold maxLen; omega
          case c4 => have := HOL.out; omega
          case c5 => first | omega | (simp; omega)
          intro g7 c7 w7 hown hgrow hlie hglt
          have K7 : Below w5.heap.size w5 w7 := ((HKR.out.alloc (by omega) _).grown hgrow (by simp; omega) (fun k hk => (hlt0 k hk).1))
          have hr7 : ByRow w7 w5.heap.size (.slice (some ⟨g7, 0, none⟩) ((outQ S9 q).length + 4) c7) (outQ S9 (q + 1)) := by
            unfold ByRow
            rw [HST.out, List.length_append, putB_length, bcells_app, putB4, show x / 16777216 % 256 = x / 16777216 from by omega]; exact hown
          rw [← HS9.out] at hr7
          have R7 := Lib.hid hr7
          clear hown hgrow hlie hglt hr7
          go_wp2
          go_roundg (8 - (q + 1))
          case measure => omega
          case rel => exact ⟨q + 1, by omega, by omega, by go_num, by rw [← HS9.out]; exact R7.out, ⟨_, _, _, rfl⟩, K7⟩
        · obtain rfl : q = 8 := by omega
          have gq : decide (((8 : Nat) : Int) < 8) = false := by decide
          have gq2 : decide ((8 : Int) < 8) = false := by decide
          have hrow := HROW.out
          have hRl : R.length = 32 := by obtain ⟨k, rfl, h⟩ := HRR.out; rw [← h, outQ_len]
          rw [show outQ ⟨d0, d1, d2, d3, d4, d5, d6, d7⟩ 8 = R from by obtain ⟨k, rfl, h⟩ := HRR.out; exact h] at hrow
          obtain ⟨g9, cp9, e9, hg9, hl9, hat9⟩ := hrow.form (by omega)
          rw [hRl] at e9
          obtain ⟨rfl, rfl, rfl⟩ : A = some ⟨g9, 0, none⟩ ∧ m = 32 ∧ d = cp9 := by injection e9 with a b c; exact ⟨a, b, c⟩
          have HAT := Lib.hid hat9
          have hcp := hrow.cap
          rw [hRl] at hcp
          clear hrow HROW hat9 e9
          go_wp2
          go_ret
          exact ⟨g9, d, rfl, hcp, by omega, hl9, HAT.out, kept_call HKR.out HK5.out⟩
set_option maxRecDepth 100000 in
set_option maxHeartbeats 2000000 in
theorem hsum_any (gb ob cb n : Nat) (bs : List Int) (hn : bs.length = n) (n0 : 0 < n) (n1 : n ≤ 55) (hb : InB bs) (w : World) (b : BySl w gb ob bs) :
    Calls Try.prog 13 #[.slice (some ⟨gb, ob, none⟩) n cb] w (FinR w (shaS bs)) := by
  have HB := Lib.hid b; clear b
  obtain ⟨R, hR⟩ : ∃ R, shaS bs = R := ⟨_, rfl⟩
  rw [hR]
  have HRR := Lib.hid (show ∃ k, k = 8 ∧ outQ (blkS kS (padS bs) firstS) k = R from ⟨8, rfl, hR⟩); clear hR
  have HN := Lib.hid hn; have HIB := Lib.hid hb; clear hn hb
  obtain ⟨S, hS⟩ : ∃ S, firstS = S := ⟨_, rfl⟩
  have hso : S.ok := hS ▸ firstS_ok
  have HSS := Lib.hid (show ∃ F, F = firstS ∧ F = S from ⟨_, rfl, hS⟩)
  have HSO := Lib.hid hso
  go_enter Try.func13, Try.ntmps13
  obtain ⟨c0, c1, c2, c3, c4, c5, c6, c7⟩ := S
  go_upto_region 1 with fail
  go_cut [3] (fun v wx => ∃ gh, v = .pointer (some ⟨gh, 0, none⟩) ∧ w.heap.size ≤ gh ∧ Blk wx gh 44 #[.int .u32 c0, .int .u32 c1, .int .u32 c2, .int .u32 c3, .int .u32 c4, .int .u32 c5, .int .u32 c6, .int .u32 c7] ∧ Below w.heap.size w wx)
  case first =>
    go_wp2_with fail
    refine (hfirst_any _).mono ?_
    rintro e w1 ⟨rfl, hb1⟩
    rw [hS]
    clear hS HSS
    have Z1 := hb1.size
    have K1 := Lib.hid (show Kp w w1 from hb1)
    clear hb1
    dsimp only [St8.cells]
    go_wp2_with fail
    go_meet
    exact ⟨w1.heap.size, rfl, Z1, (by first | exact Blk.new _ _ _ | exact setAll_blk _ 0 _ _ (Blk.new _ _ _)), (by (repeat' (first | (with_reducible exact K1.out.b) | (with_reducible refine Below.setCell ?_ ?_ _) | (with_reducible refine Below.alloc ?_ ?_ _) | (with_reducible refine Below.drew ?_) | (with_reducible refine below_drewN ?_ _))) <;> (first | omega | (simp <;> omega)))⟩
  case rest =>
    obtain ⟨gh, rfl, hgh, hbc, KC⟩ := hcut
    clear hS hso
    have K1 := Lib.hid (show Kp w wc from KC)
    have HBC := Lib.hid hbc; have HK := Lib.hid K1.out.b; have ZC := KC.size
    have HB2 := Lib.hid (HB.out.below HK.out)
    clear hbc KC K1
    go_wp2_with fail
    refine (whole0_any _ _ n _ (by omega) _).mono ?_
    rintro e w2 ⟨rfl, hb2⟩
    have HBC2 := HBC.out.below hb2
    have z2 := HBC2.cell; have l2 := HBC2.lt
    have HB3 := Lib.hid (HB2.out.below hb2); have HK2 := Lib.hid (kept_call hb2 HK.out)
    clear hb2 HBC2 HBC HK HB2
    go_wp2_with fail
    refine (hfinish_any gb ob cb n ⟨c0, c1, c2, c3, c4, c5, c6, c7⟩ bs HSO.out HN.out n0 n1 HIB.out _ HB3.out).mono ?_
    rintro e w3 ⟨g, cap, rfl, hcp, hg, hl, hat, hb3⟩
    rw [show outQ (blkS kS (padS bs) ⟨c0, c1, c2, c3, c4, c5, c6, c7⟩) 8 = R from by obtain ⟨k, rfl, h⟩ := HRR.out; obtain ⟨F, rfl, h2⟩ := HSS.out; rw [← h2]; exact h] at hat
    have HAT := Lib.hid hat; have K3 := Lib.hid (kept_call hb3 HK2.out)
    have Z3 := HK2.out.size
    clear hat hb3
    go_wp2
    go_ret
    exact ⟨g, cap, rfl, hcp, by omega, hl, HAT.out, K3.out⟩
end Go.Proofs.Ytlnboheahbfgfaa
