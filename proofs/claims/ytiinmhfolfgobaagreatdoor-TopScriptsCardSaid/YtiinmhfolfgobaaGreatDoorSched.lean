/- (*sectimecase.Tape).Schedule: a schedule. -/
import Derived.Deep.LoopGhost
import Derived.Test.YtiinmhfolfgobaaGreatDoorJ3
import Derived.Test.YtiinmhfolfgobaaGreatDoorStep
namespace Go.Proofs.YtiinmhfolfgobaaGreatDoor
open Go.RowKit
set_option linter.unusedSimpArgs false
set_option linter.unusedVariables false

/-- What is known of a schedule that was made. -/
def SchOk (sta loc p li ai : Int) (es : List Int) (xs : List Stp) (n : Int) (lying : Bool) : Prop :=
  -1000 ≤ sta ∧ sta ≤ 1000 ∧ -500 ≤ loc ∧ loc ≤ 500 ∧ 0 ≤ p ∧ p ≤ 1000000 ∧ 0 ≤ li ∧ 2 * li < es.length ∧ 0 ≤ ai ∧ ai ≤ 1000 ∧ 1 ≤ es.length ∧ es.length ≤ 5 ∧ (∀ x ∈ es, 0 ≤ x ∧ x ≤ 20) ∧ 1 ≤ xs.length ∧ (xs.length : Int) ≤ n ∧ ∀ x ∈ xs, StpOk p es li lying x
def ints (es : List Int) : List Value := es.map (.int .i64 ·)
theorem ints_snoc (es : List Int) (x : Int) : ints (es ++ [x]) = ints es ++ [.int .i64 x] := by simp [ints]
theorem infoInt : (Tryz.prog.info? 3).map (fun i => (i.zero, i.size, i.bytes)) = some (some (.int .i64 0), 1, 8) := by kernel_rfl
theorem infoStep : (Tryz.prog.info? 56).map (fun i => (i.zero, i.size, i.bytes)) = some (some (.agg #[.int .i64 0, .int .i64 0, .int .i64 0, .int .i64 0, .int .i64 0, .int .i64 0, .int .i64 0, .int .i64 0, .int .i64 0, .int .i64 0, .int .i64 0]), 11, 88) := by kernel_rfl
theorem own_cur {w : World} {base : Nat} {e : TypeId} {size n cap : Nat} {A : Option Addr} {xs : List Value} (h : w.ownsRow base e size (.slice A n cap) n xs) (h0 : 0 < n) : ∃ (g : Nat) (cur : Array Value), A = some ⟨g, 0, none⟩ ∧ base ≤ g ∧ Blk w g e cur ∧ ∀ j, j < n * size → cur[j]? = xs[j]? := by
  rcases h.2 with ⟨_, hz⟩ | ⟨g, c, cur, hv, hb, hg, _, _, _, ht⟩
  · omega
  · injection hv with hv _ _
    refine ⟨g, cur, hv, hb, hg, fun j hj => ?_⟩
    rw [← ht, List.getElem?_take, if_pos hj, Array.getElem?_toList]
theorem nums_of_own {w : World} {b base : Nat} {A : Option Addr} {cap : Nat} {es : List Int} (h : w.ownsRow base 3 1 (.slice A es.length cap) es.length (ints es)) (h0 : 0 < es.length) (hb : b < base) : NumsAt w b A es.length es := by
  obtain ⟨g, cur, e, hbg, hB, hc⟩ := own_cur h h0
  refine ⟨rfl, g, cur, e, by omega, hB, fun j hj => ?_⟩
  rw [hc j (by omega)]
  simp only [ints, List.getElem?_map, List.getElem?_eq_getElem hj, Option.map_some, List.getD_eq_getElem?_getD, Option.getD_some]
theorem steps_of_own {w : World} {b base : Nat} {A : Option Addr} {cap : Nat} {xs : List Stp} (h : w.ownsRow base 56 11 (.slice A xs.length cap) xs.length (stpCells xs)) (h0 : 0 < xs.length) (hb : b < base) : StepsAt w b A xs := by
  obtain ⟨g, cur, e, hbg, hB, hc⟩ := own_cur h h0
  refine ⟨g, cur, e, by omega, hB, fun j hj i hi => ?_⟩
  rw [hc _ (by omega)]
  exact stpCells_get xs j i hj hi
def ERel (w : World) (b gs base : Nat) (sta loc p li ai : Int) (k : Nat) (G : Nat) (i : Value) (wr : World) : Prop :=
  ∃ (q : Nat) (A : Option Addr) (c : Nat) (es : List Int), q ≤ k ∧ G = k - q ∧ i = .int .i64 (q : Int) ∧ es.length = q ∧ (∀ x ∈ es, 0 ≤ x ∧ x ≤ 20) ∧ wr.ownsRow base 3 1 (.slice A q c) q (ints es) ∧ base ≤ wr.heap.size ∧ Blk wr gs 51 #[.int .i64 sta, .int .i64 loc, .int .i64 p, .int .i64 li, .int .i64 ai, .slice A q c, .slice none 0 0] ∧ Blk wr w.heap.size 51 #[.int .i64 0, .int .i64 0, .int .i64 0, .int .i64 0, .int .i64 0, .slice none 0 0, .slice none 0 0] ∧ TapeAt wr b ∧ GB b w wr
def SRel (w : World) (b gs base : Nat) (sta loc p li ai : Int) (A : Option Addr) (k cap : Nat) (es : List Int) (lying : Bool) (m : Nat) (G : Nat) (i : Value) (wr : World) : Prop :=
  ∃ (q : Nat) (SA : Option Addr) (c : Nat) (xs : List Stp), q ≤ m ∧ G = m - q ∧ i = .int .i64 ((m - q : Nat) : Int) ∧ xs.length = q ∧ (∀ x ∈ xs, StpOk p es li lying x) ∧ wr.ownsRow base 56 11 (.slice SA q c) q (stpCells xs) ∧ base ≤ wr.heap.size ∧ Blk wr gs 51 #[.int .i64 sta, .int .i64 loc, .int .i64 p, .int .i64 li, .int .i64 ai, .slice A k cap, .slice SA q c] ∧ Blk wr w.heap.size 51 #[.int .i64 0, .int .i64 0, .int .i64 0, .int .i64 0, .int .i64 0, .slice none 0 0, .slice none 0 0] ∧ NumsAt wr b A k es ∧ TapeAt wr b ∧ GB b w wr
set_option maxRecDepth 100000 in
set_option maxHeartbeats 4000000 in
theorem sched_new (b : Nat) (n : Int) (lying : Bool) (w : World) (h : TapeAt w b) (hn0 : 1 ≤ n) (hn1 : n ≤ 64) :
    Calls Tryz.prog 18 #[.pointer (some ⟨b, 0, none⟩), .int .i64 n, .bool lying] w fun e w' => ∃ (sta loc p li ai : Int) (A SA : Option Addr) (cap scap : Nat) (es : List Int) (xs : List Stp), e = .returned (.agg #[.int .i64 sta, .int .i64 loc, .int .i64 p, .int .i64 li, .int .i64 ai, .slice A es.length cap, .slice SA xs.length scap]) ∧ SchOk sta loc p li ai es xs n lying ∧ NumsAt w' b A es.length es ∧ StepsAt w' b SA xs ∧ TapeAt w' b ∧ w.grownBy w' (some b) ∧ (∀ g, A = some ⟨g, 0, none⟩ → w.heap.size ≤ g) ∧ (∀ g, SA = some ⟨g, 0, none⟩ → w.heap.size ≤ g) := by
  have hb := h.lt
  have HT := Lib.hid h; clear h
  go_enter Tryz.func18, Tryz.ntmps18
  go_wp2_with fail
  refine wp_region_calm (by kernel_rfl) (fun n us w' => TapeAt w' b ∧ Past [b] (w.alloc (.cells #[.int .i64 0, .int .i64 0, .int .i64 0, .int .i64 0, .int .i64 0, .slice none 0 0, .slice none 0 0] 51)) w' ∧ NewC (w.heap.size + 1) 51 #[.int .i64 0, .int .i64 0, .int .i64 0, .int .i64 0, .int .i64 0, .slice none 0 0, .slice none 0 0] n us w') (PastN 51 [b]) [(Is (.pointer (some ⟨b, 0, none⟩))), (InR (-1000) 1001), (Is (.pointer (some ⟨b, 0, none⟩))), (InR (-500) 501), (SliceN [b] 3 4 #[.int .i64 0, .int .i64 50000, .int .i64 1000000, .int .i64 200]), (Is (.pointer (some ⟨b, 0, none⟩))), (InR 0 4), (PtrN [b] 3 4 #[.int .i64 0, .int .i64 50000, .int .i64 1000000, .int .i64 200]), (InR 0 1000001), (SliceN [b] 3 3 #[.int .i64 0, .int .i64 500, .int .i64 1000]), (Is (.pointer (some ⟨b, 0, none⟩))), (InR 0 3), (PtrN [b] 3 3 #[.int .i64 0, .int .i64 500, .int .i64 1000]), (InR 0 1001), (Pure fun _ v => ∃ (sta loc p ai : Int), v = .agg #[.int .i64 sta, .int .i64 loc, .int .i64 p, .int .i64 0, .int .i64 ai, .slice none 0 0, .slice none 0 0] ∧ -1000 ≤ sta ∧ sta ≤ 1000 ∧ -500 ≤ loc ∧ loc ≤ 500 ∧ 0 ≤ p ∧ p ≤ 1000000 ∧ 0 ≤ ai ∧ ai ≤ 1000), (fun _ _ _ => True), (fun _ _ _ => True)] [[], [0], [], [2], [], [], [5], [4, 6], [7], [], [], [10], [9, 11], [12], [1, 3, 8, 13], [], [14]] [15, 16] [15, 14] rfl (by kernel_rfl) (fun u => by (simp only [calmPut, Act.put, List.setIfInBounds_toArray, List.set_cons_zero, List.set_cons_succ, Nat.zero_add, Nat.reduceAdd]; rfl)) ?_ (calmKeep_cons keep_is' (calmKeep_cons keep_inR (calmKeep_cons keep_is' (calmKeep_cons keep_inR (calmKeep_cons (keep_sliceT (show 3 ≠ 51 from by decide)) (calmKeep_cons keep_is' (calmKeep_cons keep_inR (calmKeep_cons (keep_ptrT (show 3 ≠ 51 from by decide)) (calmKeep_cons keep_inR (calmKeep_cons (keep_sliceT (show 3 ≠ 51 from by decide)) (calmKeep_cons keep_is' (calmKeep_cons keep_inR (calmKeep_cons (keep_ptrT (show 3 ≠ 51 from by decide)) (calmKeep_cons keep_inR (calmKeep_cons keep_pure (calmKeep_cons keep_triv (calmKeep_cons keep_triv (calmKeep_nil)))))))))))))))))) ?_ ?_
  · intro _
    exact ⟨(HT.out.alloc _).drew, (Past.refl _ _).drew, .inl rfl⟩
  · skip
    refine calmSteps_cons (fun u wq n hn hn2 hC hk K hK => ?_) ?_
    · obtain ⟨hT, hP, hN⟩ := hC
      clear hk
      have HT := Lib.hid hT; have HP := Lib.hid hP; have hsz := hP.1; simp only [World.size_alloc] at hsz; clear hT hP
      go_simp
      exact hK _ _ _ rfl ⟨HT.out, HP.out, hN⟩ (PastN.refl _ _ _) rfl
    refine calmSteps_cons (fun u wq n hn hn2 hC hk K hK => ?_) ?_
    · obtain ⟨hT, hP, hN⟩ := hC
      simp only [calmKnown, List.getElem?_cons_zero, List.getElem?_cons_succ, and_true, Is, Pure, Option.some.injEq, List.getD_cons_zero, List.getD_cons_succ, List.map_cons, List.map_nil] at hk
      have h0 := hk; clear hk
      simp only [h0] at hK ⊢
      have H0 := Lib.hid h0; clear h0
      have HT := Lib.hid hT; have HP := Lib.hid hP; have hsz := hP.1; simp only [World.size_alloc] at hsz; clear hT hP
      go_wp2_with fail
      refine (range_any _ (-1000) 1000 _ HT.out (by omega) (by omega) (by omega)).mono ?_
      rintro e w2 ⟨v, rfl, v0, v1, ht, hgr⟩
      have hq := Past.grown (X := [b]) hgr (by simp)
      exact hK _ _ _ rfl ⟨ht, HP.out.trans hq, hN.keep hq (by first | omega | (simp <;> omega))⟩ (PastN.past hq) ⟨v, rfl, v0, by omega⟩
    refine calmSteps_cons (fun u wq n hn hn2 hC hk K hK => ?_) ?_
    · obtain ⟨hT, hP, hN⟩ := hC
      clear hk
      have HT := Lib.hid hT; have HP := Lib.hid hP; have hsz := hP.1; simp only [World.size_alloc] at hsz; clear hT hP
      go_simp
      exact hK _ _ _ rfl ⟨HT.out, HP.out, hN⟩ (PastN.refl _ _ _) rfl
    refine calmSteps_cons (fun u wq n hn hn2 hC hk K hK => ?_) ?_
    · obtain ⟨hT, hP, hN⟩ := hC
      simp only [calmKnown, List.getElem?_cons_zero, List.getElem?_cons_succ, and_true, Is, Pure, Option.some.injEq, List.getD_cons_zero, List.getD_cons_succ, List.map_cons, List.map_nil] at hk
      have h2 := hk; clear hk
      simp only [h2] at hK ⊢
      have H2 := Lib.hid h2; clear h2
      have HT := Lib.hid hT; have HP := Lib.hid hP; have hsz := hP.1; simp only [World.size_alloc] at hsz; clear hT hP
      go_wp2_with fail
      refine (range_any _ (-500) 500 _ HT.out (by omega) (by omega) (by omega)).mono ?_
      rintro e w2 ⟨v, rfl, v0, v1, ht, hgr⟩
      have hq := Past.grown (X := [b]) hgr (by simp)
      exact hK _ _ _ rfl ⟨ht, HP.out.trans hq, hN.keep hq (by first | omega | (simp <;> omega))⟩ (PastN.past hq) ⟨v, rfl, v0, by omega⟩
    refine calmSteps_cons (fun u wq n hn hn2 hC hk K hK => ?_) ?_
    · obtain ⟨hT, hP, hN⟩ := hC
      clear hk
      have HT := Lib.hid hT; have HP := Lib.hid hP; have hsz := hP.1; simp only [World.size_alloc] at hsz; clear hT hP
      go_simp
      exact hK _ _ _ rfl ⟨HT.out.alloc _, HP.out.trans (Past.alloc _ _ _), hN.keep (Past.alloc [b] _ _) (by first | omega | (simp <;> omega))⟩ (PastN.past (Past.alloc _ _ _)) ⟨wq.heap.size, rfl, (by simp; omega), Blk.new _ _ _⟩
    refine calmSteps_cons (fun u wq n hn hn2 hC hk K hK => ?_) ?_
    · obtain ⟨hT, hP, hN⟩ := hC
      clear hk
      have HT := Lib.hid hT; have HP := Lib.hid hP; have hsz := hP.1; simp only [World.size_alloc] at hsz; clear hT hP
      go_simp
      exact hK _ _ _ rfl ⟨HT.out, HP.out, hN⟩ (PastN.refl _ _ _) rfl
    refine calmSteps_cons (fun u wq n hn hn2 hC hk K hK => ?_) ?_
    · obtain ⟨hT, hP, hN⟩ := hC
      simp only [calmKnown, List.getElem?_cons_zero, List.getElem?_cons_succ, and_true, Is, Pure, Option.some.injEq, List.getD_cons_zero, List.getD_cons_succ, List.map_cons, List.map_nil] at hk
      have h5 := hk; clear hk
      simp only [h5] at hK ⊢
      have H5 := Lib.hid h5; clear h5
      have HT := Lib.hid hT; have HP := Lib.hid hP; have hsz := hP.1; simp only [World.size_alloc] at hsz; clear hT hP
      go_wp2_with fail
      refine (int_any _ 4 _ HT.out (by omega) (by omega)).mono ?_
      rintro e w2 ⟨v, rfl, v0, v1, ht, hgr⟩
      have hq := Past.grown (X := [b]) hgr (by simp)
      exact hK _ _ _ rfl ⟨ht, HP.out.trans hq, hN.keep hq (by first | omega | (simp <;> omega))⟩ (PastN.past hq) ⟨v, rfl, v0, v1⟩
    refine calmSteps_cons (fun u wq n hn hn2 hC hk K hK => ?_) ?_
    · obtain ⟨hT, hP, hN⟩ := hC
      simp only [calmKnown, List.getElem?_cons_zero, List.getElem?_cons_succ, and_true, Is, Pure, Option.some.injEq, List.getD_cons_zero, List.getD_cons_succ, List.map_cons, List.map_nil] at hk
      obtain ⟨⟨g, h4, gn, gb⟩, ⟨x6, h6, p6, q6⟩⟩ := hk
      simp only [h4, h6] at hK ⊢
      have H4 := Lib.hid h4; clear h4; have H6 := Lib.hid h6; clear h6
      have HT := Lib.hid hT; have HP := Lib.hid hP; have hsz := hP.1; simp only [World.size_alloc] at hsz; clear hT hP
      obtain rfl | rfl | rfl | rfl : x6 = 0 ∨ x6 = 1 ∨ x6 = 2 ∨ x6 = 3 := by omega
      all_goals
        go_simp
        exact hK _ _ _ rfl ⟨HT.out, HP.out, hN⟩ (PastN.refl _ _ _) ⟨g, _, rfl, by omega, gn, gb⟩
    refine calmSteps_cons (fun u wq n hn hn2 hC hk K hK => ?_) ?_
    · obtain ⟨hT, hP, hN⟩ := hC
      simp only [calmKnown, List.getElem?_cons_zero, List.getElem?_cons_succ, and_true, Is, Pure, Option.some.injEq, List.getD_cons_zero, List.getD_cons_succ, List.map_cons, List.map_nil] at hk
      obtain ⟨g, kk, h7, hkk, gn, gb⟩ := hk
      simp only [h7] at hK ⊢
      have H7 := Lib.hid h7; clear h7
      have HT := Lib.hid hT; have HP := Lib.hid hP; have hsz := hP.1; simp only [World.size_alloc] at hsz; clear hT hP
      have hc := gb.cell
      obtain rfl | rfl | rfl | rfl : kk = 0 ∨ kk = 1 ∨ kk = 2 ∨ kk = 3 := by omega
      all_goals
        go_simp
        exact hK _ _ _ rfl ⟨HT.out, HP.out, hN⟩ (PastN.refl _ _ _) ⟨_, rfl, by omega, by omega⟩
    refine calmSteps_cons (fun u wq n hn hn2 hC hk K hK => ?_) ?_
    · obtain ⟨hT, hP, hN⟩ := hC
      clear hk
      have HT := Lib.hid hT; have HP := Lib.hid hP; have hsz := hP.1; simp only [World.size_alloc] at hsz; clear hT hP
      go_simp
      exact hK _ _ _ rfl ⟨HT.out.alloc _, HP.out.trans (Past.alloc _ _ _), hN.keep (Past.alloc [b] _ _) (by first | omega | (simp <;> omega))⟩ (PastN.past (Past.alloc _ _ _)) ⟨wq.heap.size, rfl, (by simp; omega), Blk.new _ _ _⟩
    refine calmSteps_cons (fun u wq n hn hn2 hC hk K hK => ?_) ?_
    · obtain ⟨hT, hP, hN⟩ := hC
      clear hk
      have HT := Lib.hid hT; have HP := Lib.hid hP; have hsz := hP.1; simp only [World.size_alloc] at hsz; clear hT hP
      go_simp
      exact hK _ _ _ rfl ⟨HT.out, HP.out, hN⟩ (PastN.refl _ _ _) rfl
    refine calmSteps_cons (fun u wq n hn hn2 hC hk K hK => ?_) ?_
    · obtain ⟨hT, hP, hN⟩ := hC
      simp only [calmKnown, List.getElem?_cons_zero, List.getElem?_cons_succ, and_true, Is, Pure, Option.some.injEq, List.getD_cons_zero, List.getD_cons_succ, List.map_cons, List.map_nil] at hk
      have h10 := hk; clear hk
      simp only [h10] at hK ⊢
      have H10 := Lib.hid h10; clear h10
      have HT := Lib.hid hT; have HP := Lib.hid hP; have hsz := hP.1; simp only [World.size_alloc] at hsz; clear hT hP
      go_wp2_with fail
      refine (int_any _ 3 _ HT.out (by omega) (by omega)).mono ?_
      rintro e w2 ⟨v, rfl, v0, v1, ht, hgr⟩
      have hq := Past.grown (X := [b]) hgr (by simp)
      exact hK _ _ _ rfl ⟨ht, HP.out.trans hq, hN.keep hq (by first | omega | (simp <;> omega))⟩ (PastN.past hq) ⟨v, rfl, v0, v1⟩
    refine calmSteps_cons (fun u wq n hn hn2 hC hk K hK => ?_) ?_
    · obtain ⟨hT, hP, hN⟩ := hC
      simp only [calmKnown, List.getElem?_cons_zero, List.getElem?_cons_succ, and_true, Is, Pure, Option.some.injEq, List.getD_cons_zero, List.getD_cons_succ, List.map_cons, List.map_nil] at hk
      obtain ⟨⟨g, h9, gn, gb⟩, ⟨x11, h11, p11, q11⟩⟩ := hk
      simp only [h9, h11] at hK ⊢
      have H9 := Lib.hid h9; clear h9; have H11 := Lib.hid h11; clear h11
      have HT := Lib.hid hT; have HP := Lib.hid hP; have hsz := hP.1; simp only [World.size_alloc] at hsz; clear hT hP
      obtain rfl | rfl | rfl : x11 = 0 ∨ x11 = 1 ∨ x11 = 2 := by omega
      all_goals
        go_simp
        exact hK _ _ _ rfl ⟨HT.out, HP.out, hN⟩ (PastN.refl _ _ _) ⟨g, _, rfl, by omega, gn, gb⟩
    refine calmSteps_cons (fun u wq n hn hn2 hC hk K hK => ?_) ?_
    · obtain ⟨hT, hP, hN⟩ := hC
      simp only [calmKnown, List.getElem?_cons_zero, List.getElem?_cons_succ, and_true, Is, Pure, Option.some.injEq, List.getD_cons_zero, List.getD_cons_succ, List.map_cons, List.map_nil] at hk
      obtain ⟨g, kk, h12, hkk, gn, gb⟩ := hk
      simp only [h12] at hK ⊢
      have H12 := Lib.hid h12; clear h12
      have HT := Lib.hid hT; have HP := Lib.hid hP; have hsz := hP.1; simp only [World.size_alloc] at hsz; clear hT hP
      have hc := gb.cell
      obtain rfl | rfl | rfl : kk = 0 ∨ kk = 1 ∨ kk = 2 := by omega
      all_goals
        go_simp
        exact hK _ _ _ rfl ⟨HT.out, HP.out, hN⟩ (PastN.refl _ _ _) ⟨_, rfl, by omega, by omega⟩
    refine calmSteps_cons (fun u wq n hn hn2 hC hk K hK => ?_) ?_
    · obtain ⟨hT, hP, hN⟩ := hC
      simp only [calmKnown, List.getElem?_cons_zero, List.getElem?_cons_succ, and_true, Is, Pure, Option.some.injEq, List.getD_cons_zero, List.getD_cons_succ, List.map_cons, List.map_nil] at hk
      obtain ⟨⟨x1, h1, p1, q1⟩, ⟨x3, h3, p3, q3⟩, ⟨x8, h8, p8, q8⟩, ⟨x13, h13, p13, q13⟩⟩ := hk
      simp only [h1, h3, h8, h13] at hK ⊢
      have H1 := Lib.hid h1; clear h1; have H3 := Lib.hid h3; clear h3; have H8 := Lib.hid h8; clear h8; have H13 := Lib.hid h13; clear h13
      have HT := Lib.hid hT; have HP := Lib.hid hP; have hsz := hP.1; simp only [World.size_alloc] at hsz; clear hT hP
      have hn1 := hn2 1 16 rfl (by kernel_rfl)
      go_simp
      exact hK _ _ _ rfl ⟨HT.out, HP.out, NewC.val (show NewC _ _ _ n [u 15, u 14] wq from hN) hn1⟩ (PastN.refl _ _ _) ⟨x1, x3, x8, x13, rfl, by omega, by omega, by omega, by omega, by omega, by omega, by omega, by omega⟩
    refine calmSteps_cons (fun u wq n hn hn2 hC hk K hK => ?_) ?_
    · obtain ⟨hT, hP, hN⟩ := hC
      clear hk
      obtain rfl := hn 0 rfl
      have HT := Lib.hid hT; have HP := Lib.hid hP; have hsz := hP.1; simp only [World.size_alloc] at hsz; clear hT hP
      go_simp
      exact hK _ _ _ rfl ⟨HT.out.alloc _, HP.out.trans (Past.alloc _ _ _), NewC.made (x := u 14) hsz⟩ (PastN.past (Past.alloc _ _ _)) trivial
    refine calmSteps_cons (fun u wq n hn hn2 hC hk K hK => ?_) ?_
    · obtain ⟨hT, hP, hN⟩ := hC
      simp only [calmKnown, List.getElem?_cons_zero, List.getElem?_cons_succ, and_true, Is, Pure, Option.some.injEq, List.getD_cons_zero, List.getD_cons_succ, List.map_cons, List.map_nil] at hk
      obtain ⟨sta, loc, p, ai, h14, -⟩ := hk
      simp only [h14] at hK ⊢
      have H14 := Lib.hid h14; clear h14
      obtain rfl := hn 1 rfl
      obtain ⟨g, h15, gb, gl, hB⟩ := NewC.one (show NewC _ _ _ 1 [u 15, u 14] wq from hN)
      simp only [h15] at hK ⊢
      have H15 := Lib.hid h15; clear h15 hN
      have gT : b < g := by omega
      have HT := Lib.hid hT; have HP := Lib.hid hP; have hsz := hP.1; simp only [World.size_alloc] at hsz; clear hT hP
      have hf := hB.frozen
      have hc := hB.cell
      go_simp
      have hB2 := setAll_blk [.int .i64 sta, .int .i64 loc, .int .i64 p, .int .i64 0, .int .i64 ai, .slice none 0 0, .slice none 0 0] 0 wq _ hB
      simp only [setArr, List.setIfInBounds_toArray, List.set_cons_zero, List.set_cons_succ, Nat.zero_add, Nat.reduceAdd] at hB2
      have h1 := setAll_tape gT [.int .i64 sta, .int .i64 loc, .int .i64 p, .int .i64 0, .int .i64 ai, .slice none 0 0, .slice none 0 0] 0 wq HT.out
      have h2 := setAll_past (X := [b]) (W := (w.alloc (.cells #[.int .i64 0, .int .i64 0, .int .i64 0, .int .i64 0, .int .i64 0, .slice none 0 0, .slice none 0 0] 51))) (g := g) (by simpa using gb) [.int .i64 sta, .int .i64 loc, .int .i64 p, .int .i64 0, .int .i64 ai, .slice none 0 0, .slice none 0 0] 0 wq HP.out
      have h5 : PastN 51 [b] wq (setAll wq g 0 [.int .i64 sta, .int .i64 loc, .int .i64 p, .int .i64 0, .int .i64 ai, .slice none 0 0, .slice none 0 0]) := PastN.sets hB (fun k hk => setAll_other hk _ _ _)
      exact hK _ undef (setAll wq g 0 [.int .i64 sta, .int .i64 loc, .int .i64 p, .int .i64 0, .int .i64 ai, .slice none 0 0, .slice none 0 0]) rfl ⟨h1, h2, (show NewC _ _ _ 2 [u 15, u 14] _ from by rw [H15.out, H14.out]; exact NewC.stored gb hB2)⟩ h5 trivial
    exact calmSteps_nil
  · intro u w2 hC hF
    obtain ⟨ht2, hP, hN⟩ := hC
    obtain ⟨g, cs5, g9, gb, g6, hB⟩ := NewC.last (show NewC _ _ _ 2 [u 15, u 14] w2 from hN)
    simp only [calmFacts, Pure, Is, List.map_cons, List.map_nil, and_true, Nat.zero_add, Nat.reduceAdd] at hF
    obtain ⟨-, -, -, -, -, -, -, -, -, -, -, -, -, -, ⟨sta, loc, p, ai, h14, s0, s1, s2, s3, p0, p1, s6, s7⟩⟩ := hF
    rw [g6] at h14
    obtain rfl : cs5 = _ := by injection h14
    clear h14 hN g6
    simp only [g9]
    clear g9
    have bX := hB; clear hB
    have K2 : GB b w w2 := Past.gb ((GB.refl b w).alloc _) hP (by intro k hk; simp at hk; omega)
    have bR : Blk w2 w.heap.size 51 #[.int .i64 0, .int .i64 0, .int .i64 0, .int .i64 0, .int .i64 0, .slice none 0 0, .slice none 0 0] := hP.blk (Blk.new _ _ _) (by simp; omega)
    have Z2 : w.heap.size ≤ w2.heap.size := K2.size
    clear hP HT; have T2 := ht2.lt; have HT := Lib.hid ht2; clear ht2
    obtain ⟨cX, fX, lX, eX, kX⟩ := Blk.facts bX
    obtain ⟨cR, fR, lR, eR, kR⟩ := Blk.facts bR
    have nb : b ≠ g := by omega
    have ng : w.heap.size < g := by omega
    go_wp2_with fail
    refine (int_any _ 5 _ (by (repeat' (first | (with_reducible exact HT.out) | (with_reducible refine' TapeAt.alloc ?_ _) | (with_reducible refine' TapeAt.drew ?_) | (with_reducible refine' TapeAt.drewN ?_ _) | (with_reducible refine' TapeAt.set ?_ ?_ _))) <;> (first | omega | (simp <;> omega))) (by omega) (by omega)).mono ?_
    rintro e w3 ⟨kv, rfl, kv0, kv1, ht3, hg3⟩
    have K3 : GB b w w3 := GB.tap hg3 (by (try show GB b w _); (repeat' (first | (with_reducible exact K2) | (with_reducible refine GB.setCell ?_ ?_ _) | (with_reducible refine GB.alloc ?_ _) | (with_reducible refine GB.drew ?_) | (with_reducible refine GB.drewN ?_ _))) <;> (first | omega | (simp <;> omega)))
    have Z3 : w.heap.size ≤ w3.heap.size := K3.size
    have bX' := Blk.keepG (g := g) hg3 (by (repeat' (first | (with_reducible refine' Blk.alloc ?_ _) | (with_reducible refine' Blk.drew ?_) | (with_reducible refine' Blk.drewN ?_ _) | (with_reducible refine' Blk.put ?_ ?_) | (with_reducible refine' Blk.far ?_ ?_ _) | exact bX | exact rfl)) <;> (first | omega | (simp <;> omega))) (by first | omega | (simp <;> omega))
    (try simp only [List.setIfInBounds_toArray, List.set_cons_zero, List.set_cons_succ] at bX')
    have bR' := Blk.keepG (g := w.heap.size) hg3 (by (repeat' (first | (with_reducible refine' Blk.alloc ?_ _) | (with_reducible refine' Blk.drew ?_) | (with_reducible refine' Blk.drewN ?_ _) | (with_reducible refine' Blk.put ?_ ?_) | (with_reducible refine' Blk.far ?_ ?_ _) | exact bR | exact rfl)) <;> (first | omega | (simp <;> omega))) (by first | omega | (simp <;> omega))
    (try simp only [List.setIfInBounds_toArray, List.set_cons_zero, List.set_cons_succ] at bR')
    clear HT; have T3 := ht3.lt; have HT := Lib.hid ht3; clear ht3
    clear hg3 K2
    clear bX cX fX lX eX kX; have bX := bX'; clear bX'
    clear bR cR fR lR eR kR; have bR := bR'; clear bR'
    obtain ⟨cX, fX, lX, eX, kX⟩ := Blk.facts bX
    obtain ⟨cR, fR, lR, eR, kR⟩ := Blk.facts bR
    obtain ⟨k, hk⟩ : ∃ k : Nat, 1 + kv = (k : Int) := ⟨(1 + kv).toNat, by omega⟩
    have k0 : 1 ≤ k := by omega
    have k1 : k ≤ 5 := by omega
    have wk : IntKind.i64.wrap (1 + kv) = (k : Int) := by rw [IntWalk.i64_in _ (by omega)]; exact hk
    obtain ⟨hv, hhv⟩ : ∃ hv, ((k : Int) + 1).tdiv 2 = hv := ⟨_, rfl⟩
    have hv2 : hv = ((k : Int) + 1) / 2 := by rw [← hhv, Int.tdiv_eq_ediv_of_nonneg (by omega)]
    have hv0 : 1 ≤ hv := by omega
    have hv1 : 2 * hv ≤ (k : Int) + 1 := by omega
    have wk1 : IntKind.i64.wrap ((k : Int) + 1) = (k : Int) + 1 := IntWalk.i64_in _ (by omega)
    have wk2 : IntKind.i64.wrap hv = hv := IntWalk.i64_in _ (by omega)
    clear hv2
    have HKV := Lib.hid hk; clear hk
    go_wp2_with fail
    refine (int_any _ hv _ (by (repeat' (first | (with_reducible exact HT.out) | (with_reducible refine' TapeAt.alloc ?_ _) | (with_reducible refine' TapeAt.drew ?_) | (with_reducible refine' TapeAt.drewN ?_ _) | (with_reducible refine' TapeAt.set ?_ ?_ _))) <;> (first | omega | (simp <;> omega))) (by omega) (by omega)).mono ?_
    rintro e w4 ⟨li, rfl, li0, li1, ht4, hg4⟩
    have K4 : GB b w w4 := GB.tap hg4 (by (try show GB b w _); (repeat' (first | (with_reducible exact K3) | (with_reducible refine GB.setCell ?_ ?_ _) | (with_reducible refine GB.alloc ?_ _) | (with_reducible refine GB.drew ?_) | (with_reducible refine GB.drewN ?_ _))) <;> (first | omega | (simp <;> omega)))
    have Z4 : w.heap.size ≤ w4.heap.size := K4.size
    have bX' := Blk.keepG (g := g) hg4 (by (repeat' (first | (with_reducible refine' Blk.alloc ?_ _) | (with_reducible refine' Blk.drew ?_) | (with_reducible refine' Blk.drewN ?_ _) | (with_reducible refine' Blk.put ?_ ?_) | (with_reducible refine' Blk.far ?_ ?_ _) | exact bX | exact rfl)) <;> (first | omega | (simp <;> omega))) (by first | omega | (simp <;> omega))
    (try simp only [List.setIfInBounds_toArray, List.set_cons_zero, List.set_cons_succ] at bX')
    have bR' := Blk.keepG (g := w.heap.size) hg4 (by (repeat' (first | (with_reducible refine' Blk.alloc ?_ _) | (with_reducible refine' Blk.drew ?_) | (with_reducible refine' Blk.drewN ?_ _) | (with_reducible refine' Blk.put ?_ ?_) | (with_reducible refine' Blk.far ?_ ?_ _) | exact bR | exact rfl)) <;> (first | omega | (simp <;> omega))) (by first | omega | (simp <;> omega))
    (try simp only [List.setIfInBounds_toArray, List.set_cons_zero, List.set_cons_succ] at bR')
    clear HT; have T4 := ht4.lt; have HT := Lib.hid ht4; clear ht4
    clear hg4 K3
    clear bX cX fX lX eX kX; have bX := bX'; clear bX'
    clear bR cR fR lR eR kR; have bR := bR'; clear bR'
    obtain ⟨cX, fX, lX, eX, kX⟩ := Blk.facts bX
    obtain ⟨cR, fR, lR, eR, kR⟩ := Blk.facts bR
    clear wk wk1 wk2 hhv
    clear kv0 kv1
    have hli : 2 * li < (k : Int) := by omega
    clear hv0 hv1 li1
    go_wp2
    obtain ⟨base, hbase⟩ : ∃ base, base = w4.heap.size := ⟨_, rfl⟩
    have hgb : g < base := by omega
    have hRb : w.heap.size < base := by omega
    go_loopg [9] k (fun G i wr => ERel w b g base sta loc p li ai k G i wr)
    case atStart => exact ⟨0, none, 0, [], by omega, by omega, rfl, rfl, by simp, World.ownsRow_nil _ _ _ _, by simp [World.setCell]; omega, by (repeat' (first | (with_reducible refine' Blk.alloc ?_ _) | (with_reducible refine' Blk.drew ?_) | (with_reducible refine' Blk.drewN ?_ _) | (with_reducible refine' Blk.put ?_ ?_) | (with_reducible refine' Blk.far ?_ ?_ _) | exact bX | exact rfl)) <;> (first | omega | (simp <;> omega)), by (repeat' (first | (with_reducible refine' Blk.alloc ?_ _) | (with_reducible refine' Blk.drew ?_) | (with_reducible refine' Blk.drewN ?_ _) | (with_reducible refine' Blk.put ?_ ?_) | (with_reducible refine' Blk.far ?_ ?_ _) | exact bR | exact rfl)) <;> (first | omega | (simp <;> omega)), (by (repeat' (first | (with_reducible exact HT.out) | (with_reducible refine' TapeAt.alloc ?_ _) | (with_reducible refine' TapeAt.drew ?_) | (with_reducible refine' TapeAt.drewN ?_ _) | (with_reducible refine' TapeAt.set ?_ ?_ _))) <;> (first | omega | (simp <;> omega))), by (try show GB b w _); (repeat' (first | (with_reducible exact K4) | (with_reducible refine GB.setCell ?_ ?_ _) | (with_reducible refine GB.alloc ?_ _) | (with_reducible refine GB.drew ?_) | (with_reducible refine GB.drewN ?_ _))) <;> (first | omega | (simp <;> omega))⟩
    case round =>
      obtain ⟨q, A0, c0, es, hq, rfl, rfl, hel, hes, hrow, hbw, bX', bR', htr, KR⟩ := hrel
      clear bX cX fX lX eX kX bR cR fR lR eR kR HT K4
      have bX := bX'; have bR := bR'; clear bX' bR'
      have ZR := KR.size
      have TR := htr.lt
      have HT := Lib.hid htr; clear htr
      obtain ⟨cX, fX, lX, eX, kX⟩ := Blk.facts bX
      obtain ⟨cR, fR, lR, eR, kR⟩ := Blk.facts bR
      by_cases hlt : q < k
      · have gq : decide ((q : Int) < (k : Int)) = true := decide_eq_true (by omega)
        obtain ⟨i0, hi, hz0, hz1, hz2⟩ := info_parts infoInt
        generalize hv : (Value.slice A0 q c0) = v at *
        have HV := Lib.hid hv; clear hv
        generalize hX : v.ownBlock = X at *
        have hXl : ∀ kk, X = some kk → base ≤ kk ∧ kk < wr.heap.size := fun kk hk => hrow.lt kk (hX.trans hk)
        have HXX := Lib.hid hX; clear hX
        have HES := Lib.hid hes; have HEL := Lib.hid hel; clear hes hel
        generalize hxs : ints es = vs at *
        have HXS := Lib.hid hxs; clear hxs
        go_wp2_with fail
        have nbl : b < g := by omega
        refine wp_region_calmS (by kernel_rfl) (fun n us w' => TapeAt w' b ∧ Past (b :: g :: X.toList) wr w' ∧ (n = 0 → w'.ownsRow base 3 1 v q vs) ∧ (n ≤ 1 → Blk w' g 51 #[.int .i64 sta, .int .i64 loc, .int .i64 p, .int .i64 li, .int .i64 ai, v, .slice none 0 0]) ∧ (1 ≤ n → ∃ (A : Option Addr) (c : Nat) (x : Int), us[0]? = some (.slice A (q + 1) c) ∧ 0 ≤ x ∧ x ≤ 20 ∧ w'.ownsRow base 3 1 (.slice A (q + 1) c) (q + 1) (vs ++ [.int .i64 x]) ∧ (∀ kk, (Value.slice A (q + 1) c).ownBlock = some kk → kk ≠ g ∧ kk ≠ b) ∧ (n = 2 → Blk w' g 51 #[.int .i64 sta, .int .i64 loc, .int .i64 p, .int .i64 li, .int .i64 ai, .slice A (q + 1) c, .slice none 0 0]))) (Past (b :: g :: X.toList)) [(Is (.pointer (some ⟨g, 5, none⟩))), (Is v), (SliceN (b :: g :: X.toList) 3 3 #[.int .i64 0, .int .i64 3, .int .i64 20]), (Is (.pointer (some ⟨b, 0, none⟩))), (InR 0 3), (PtrN (b :: g :: X.toList) 3 3 #[.int .i64 0, .int .i64 3, .int .i64 20]), (InR 0 21), (fun _ v w => ∃ (gl : Nat) (x : Int), v = .slice (some ⟨gl, 0, none⟩) 1 1 ∧ 0 ≤ x ∧ x ≤ 20 ∧ gl ∉ (b :: g :: X.toList) ∧ Blk w gl 3 #[.int .i64 x]), (fun _ _ _ => True), (Is (.pointer (some ⟨g, 5, none⟩))), (fun _ _ _ => True)] [[], [0], [], [], [3], [2, 4], [5], [6], [1, 7], [], [9]] [8, 10] [8] rfl (by kernel_rfl) (fun u => by (simp only [calmPut, Act.put, List.setIfInBounds_toArray, List.set_cons_zero, List.set_cons_succ, Nat.zero_add, Nat.reduceAdd]; rfl)) ?_ (calmKeep_cons keep_is' (calmKeep_cons keep_is' (calmKeep_cons keep_sliceN (calmKeep_cons keep_is' (calmKeep_cons keep_inR (calmKeep_cons keep_ptrN (calmKeep_cons keep_inR (calmKeep_cons (fun _ _ _ _ h ⟨gl, x, e, h0, h1, hn, hb⟩ => ⟨gl, x, e, h0, h1, hn, h.blk hb hn⟩) (calmKeep_cons keep_triv (calmKeep_cons keep_is' (calmKeep_cons keep_triv (calmKeep_nil)))))))))))) ?_ ?_
        · skip
          exact ⟨HT.out.drew, (Past.refl _ _).drew, fun _ => hrow, fun _ => bX, fun h => absurd h (by decide)⟩
        · skip
          refine calmSteps_cons (fun u wq n hn hn2 hC hk K hK => ?_) ?_
          · obtain ⟨hT, hP, hR, hG, hM⟩ := hC
            clear hk
            have HT := Lib.hid hT; have HP := Lib.hid hP; have hsz := hP.1; clear hT hP
            obtain rfl : n = 0 := Nat.le_zero.1 (hn2 0 8 rfl (by kernel_rfl)); replace hR := hR rfl; replace hG := hG (by omega)
            go_simp
            exact hK _ _ _ rfl ⟨HT.out, HP.out, fun _ => hR, fun _ => hG, (fun h => absurd h (by decide))⟩ (Past.refl _ _) rfl
          refine calmSteps_cons (fun u wq n hn hn2 hC hk K hK => ?_) ?_
          · obtain ⟨hT, hP, hR, hG, hM⟩ := hC
            simp only [calmKnown, List.getElem?_cons_zero, List.getElem?_cons_succ, and_true, Is, Pure, Option.some.injEq, List.getD_cons_zero, List.getD_cons_succ, List.map_cons, List.map_nil] at hk
            have h0 := hk; clear hk
            simp only [h0] at hK ⊢
            have H0 := Lib.hid h0; clear h0
            have HT := Lib.hid hT; have HP := Lib.hid hP; have hsz := hP.1; clear hT hP
            obtain rfl : n = 0 := Nat.le_zero.1 (hn2 0 8 rfl (by kernel_rfl)); replace hR := hR rfl; replace hG := hG (by omega)
            have cG := hG.cell
            go_simp
            exact hK _ _ _ rfl ⟨HT.out, HP.out, fun _ => hR, fun _ => hG, (fun h => absurd h (by decide))⟩ (Past.refl _ _) rfl
          refine calmSteps_cons (fun u wq n hn hn2 hC hk K hK => ?_) ?_
          · obtain ⟨hT, hP, hR, hG, hM⟩ := hC
            clear hk
            have HT := Lib.hid hT; have HP := Lib.hid hP; have hsz := hP.1; clear hT hP
            obtain rfl : n = 0 := Nat.le_zero.1 (hn2 0 8 rfl (by kernel_rfl)); replace hR := hR rfl; replace hG := hG (by omega)
            go_simp
            exact hK _ _ _ rfl ⟨HT.out.alloc _, HP.out.trans (Past.alloc _ _ _), fun _ => hR.alloc _, fun _ => hG.alloc _, (fun h => absurd h (by decide))⟩ (Past.alloc _ _ _) ⟨wq.heap.size, rfl, (fun hm => by have hz2 : wr.heap.size ≤ wq.heap.size := HP.out.1; simp only [List.mem_cons, Option.mem_toList] at hm; rcases hm with e | e | e <;> first | omega | (have := hXl _ e; omega)), Blk.new _ _ _⟩
          refine calmSteps_cons (fun u wq n hn hn2 hC hk K hK => ?_) ?_
          · obtain ⟨hT, hP, hR, hG, hM⟩ := hC
            clear hk
            have HT := Lib.hid hT; have HP := Lib.hid hP; have hsz := hP.1; clear hT hP
            obtain rfl : n = 0 := Nat.le_zero.1 (hn2 0 8 rfl (by kernel_rfl)); replace hR := hR rfl; replace hG := hG (by omega)
            go_simp
            exact hK _ _ _ rfl ⟨HT.out, HP.out, fun _ => hR, fun _ => hG, (fun h => absurd h (by decide))⟩ (Past.refl _ _) rfl
          refine calmSteps_cons (fun u wq n hn hn2 hC hk K hK => ?_) ?_
          · obtain ⟨hT, hP, hR, hG, hM⟩ := hC
            simp only [calmKnown, List.getElem?_cons_zero, List.getElem?_cons_succ, and_true, Is, Pure, Option.some.injEq, List.getD_cons_zero, List.getD_cons_succ, List.map_cons, List.map_nil] at hk
            have h3 := hk; clear hk
            simp only [h3] at hK ⊢
            have H3 := Lib.hid h3; clear h3
            have HT := Lib.hid hT; have HP := Lib.hid hP; have hsz := hP.1; clear hT hP
            obtain rfl : n = 0 := Nat.le_zero.1 (hn2 0 8 rfl (by kernel_rfl)); replace hR := hR rfl; replace hG := hG (by omega)
            go_wp2_with fail
            refine (int_any _ 3 _ HT.out (by omega) (by omega)).mono ?_
            rintro e w2 ⟨x, rfl, v0, v1, ht, hgr⟩
            have hq := Past.grown (X := (b :: g :: X.toList)) hgr (by simp)
            exact hK _ _ _ rfl ⟨ht, HP.out.trans hq, fun _ => hR.kept hgr (by cases hvb : v.ownBlock with | none => exact .inl rfl | some kk => exact .inr (fun e => by have := hXl kk (by rw [← HXX.out]; exact hvb); injection e with e; omega)), fun _ => Blk.keepG hgr hG (by omega), (fun h => absurd h (by decide))⟩ hq ⟨x, rfl, v0, v1⟩
          refine calmSteps_cons (fun u wq n hn hn2 hC hk K hK => ?_) ?_
          · obtain ⟨hT, hP, hR, hG, hM⟩ := hC
            simp only [calmKnown, List.getElem?_cons_zero, List.getElem?_cons_succ, and_true, Is, Pure, Option.some.injEq, List.getD_cons_zero, List.getD_cons_succ, List.map_cons, List.map_nil] at hk
            obtain ⟨⟨gl, h2, gn, gb⟩, ⟨x4, h4, p4, q4⟩⟩ := hk
            simp only [h2, h4] at hK ⊢
            have H2 := Lib.hid h2; clear h2; have H4 := Lib.hid h4; clear h4
            have HT := Lib.hid hT; have HP := Lib.hid hP; have hsz := hP.1; clear hT hP
            obtain rfl : n = 0 := Nat.le_zero.1 (hn2 0 8 rfl (by kernel_rfl)); replace hR := hR rfl; replace hG := hG (by omega)
            obtain rfl | rfl | rfl : x4 = 0 ∨ x4 = 1 ∨ x4 = 2 := by omega
            all_goals
              go_simp
              exact hK _ _ _ rfl ⟨HT.out, HP.out, fun _ => hR, fun _ => hG, (fun h => absurd h (by decide))⟩ (Past.refl _ _) ⟨gl, _, rfl, by omega, gn, gb⟩
          refine calmSteps_cons (fun u wq n hn hn2 hC hk K hK => ?_) ?_
          · obtain ⟨hT, hP, hR, hG, hM⟩ := hC
            simp only [calmKnown, List.getElem?_cons_zero, List.getElem?_cons_succ, and_true, Is, Pure, Option.some.injEq, List.getD_cons_zero, List.getD_cons_succ, List.map_cons, List.map_nil] at hk
            obtain ⟨gl, kk, h5, hkk, gn, gb⟩ := hk
            simp only [h5] at hK ⊢
            have H5 := Lib.hid h5; clear h5
            have HT := Lib.hid hT; have HP := Lib.hid hP; have hsz := hP.1; clear hT hP
            obtain rfl : n = 0 := Nat.le_zero.1 (hn2 0 8 rfl (by kernel_rfl)); replace hR := hR rfl; replace hG := hG (by omega)
            have hc := gb.cell
            obtain rfl | rfl | rfl : kk = 0 ∨ kk = 1 ∨ kk = 2 := by omega
            all_goals
              go_simp
              exact hK _ _ _ rfl ⟨HT.out, HP.out, fun _ => hR, fun _ => hG, (fun h => absurd h (by decide))⟩ (Past.refl _ _) ⟨_, rfl, by omega, by omega⟩
          refine calmSteps_cons (fun u wq n hn hn2 hC hk K hK => ?_) ?_
          · obtain ⟨hT, hP, hR, hG, hM⟩ := hC
            simp only [calmKnown, List.getElem?_cons_zero, List.getElem?_cons_succ, and_true, Is, Pure, Option.some.injEq, List.getD_cons_zero, List.getD_cons_succ, List.map_cons, List.map_nil] at hk
            obtain ⟨x6, h6, p6, q6⟩ := hk
            simp only [h6] at hK ⊢
            have H6 := Lib.hid h6; clear h6
            have HT := Lib.hid hT; have HP := Lib.hid hP; have hsz := hP.1; clear hT hP
            obtain rfl : n = 0 := Nat.le_zero.1 (hn2 0 8 rfl (by kernel_rfl)); replace hR := hR rfl; replace hG := hG (by omega)
            go_simp
            exact hK _ _ _ rfl ⟨HT.out.alloc _, HP.out.trans (Past.alloc _ _ _), fun _ => hR.alloc _, fun _ => hG.alloc _, (fun h => absurd h (by decide))⟩ (Past.alloc _ _ _) ⟨wq.heap.size, x6, rfl, by omega, by omega, (fun hm => by have hz2 : wr.heap.size ≤ wq.heap.size := HP.out.1; simp only [List.mem_cons, Option.mem_toList] at hm; rcases hm with e | e | e <;> first | omega | (have := hXl _ e; omega)), Blk.new _ _ _⟩
          refine calmSteps_cons (fun u wq n hn hn2 hC hk K hK => ?_) ?_
          · obtain ⟨hT, hP, hR, hG, hM⟩ := hC
            simp only [calmKnown, List.getElem?_cons_zero, List.getElem?_cons_succ, and_true, Is, Pure, Option.some.injEq, List.getD_cons_zero, List.getD_cons_succ, List.map_cons, List.map_nil] at hk
            obtain ⟨h1, ⟨gl, x, h7, x0, x1, hgX, hgB⟩⟩ := hk
            simp only [h1, h7] at hK ⊢
            have H1 := Lib.hid h1; clear h1; have H7 := Lib.hid h7; clear h7
            obtain rfl := hn 0 rfl
            replace hR := hR rfl; replace hG := hG (by omega)
            have HT := Lib.hid hT; have HP := Lib.hid hP; have hsz := hP.1; clear hT hP
            refine calm_op (by rfl) ?_
            refine wp_append_lies _ _ _ 22 rfl base 3 i0 (.int .i64 0) 1 8 Tryz.underlying22 hi hz0 hz1 hz2 rfl (by decide) v q vs rfl hR ⟨gl, 0, none⟩ 1 1 [.int .i64 x] rfl rfl (World.news_of_block (t := 3) (fr := (0, 0)) hgB) (by simp [Value.oneCell']) (by omega) (by unfold maxLen; omega) (by omega) (by omega) wq.heap.size rfl ?_
            intro g' c' w' hown' hgrow hlie _
            rw [HXX.out] at hgrow hlie
            have hpp : Past (b :: g :: X.toList) wq w' := Past.grownX hgrow (fun kk hk => by simp [hk])
            have hgg : g' ≠ g ∧ g' ≠ b := by rcases hlie with e | e <;> first | omega | (have := hXl _ e; omega)
            have hgX' : g ∉ X.toList := fun hm => by have := hXl g (by simpa using hm); omega
            have hG' : Blk w' g 51 #[.int .i64 sta, .int .i64 loc, .int .i64 p, .int .i64 li, .int .i64 ai, v, .slice none 0 0] := (hgrow.block g hG.lt (fun e => by have := hXl g e.symm; omega)).trans hG
            have hT' : TapeAt w' b := HT.out.kept (fun kk hk => hgrow.block kk (by have := HT.out.lt; omega) (fun e => by have := hXl kk e.symm; omega))
            exact hK _ _ _ rfl ⟨hT', HP.out.trans hpp, fun h => absurd h (by decide), fun _ => hG', fun _ => ⟨_, _, x, rfl, x0, x1, hown', fun kk hkk => by simp [Value.ownBlock] at hkk; omega, fun h => absurd h (by decide)⟩⟩ hpp trivial
          refine calmSteps_cons (fun u wq n hn hn2 hC hk K hK => ?_) ?_
          · obtain ⟨hT, hP, hR, hG, hM⟩ := hC
            clear hk
            have hn1 := hn2 1 10 rfl (by kernel_rfl)
            have HT := Lib.hid hT; have HP := Lib.hid hP; have hsz := hP.1; clear hT hP
            go_simp
            exact hK _ _ _ rfl ⟨HT.out, HP.out, hR, hG, hM⟩ (Past.refl _ _) rfl
          refine calmSteps_cons (fun u wq n hn hn2 hC hk K hK => ?_) ?_
          · obtain ⟨hT, hP, hR, hG, hM⟩ := hC
            simp only [calmKnown, List.getElem?_cons_zero, List.getElem?_cons_succ, and_true, Is, Pure, Option.some.injEq, List.getD_cons_zero, List.getD_cons_succ, List.map_cons, List.map_nil] at hk
            have h9 := hk; clear hk
            simp only [h9] at hK ⊢
            have H9 := Lib.hid h9; clear h9
            obtain rfl := hn 1 rfl
            have HT := Lib.hid hT; have HP := Lib.hid hP; have hsz := hP.1; clear hT hP
            replace hG := hG (by omega)
            obtain ⟨A, c, x, hu, x0, x1, hown, hnn, -⟩ := hM (by omega)
            have hu8 : u 8 = .slice A (q + 1) c := Option.some.inj (show some (u 8) = some _ from hu)
            simp only [hu8] at hK ⊢
            have cG := hG.cell
            have fG := hG.frozen
            have lG := hG.lt
            have hG2 := hG.set_ 5 (.slice A (q + 1) c)
            simp only [List.setIfInBounds_toArray, List.set_cons_zero, List.set_cons_succ] at hG2
            have HU := Lib.hid hu8; clear hu8 hu
            go_simp
            have hgr : wq.grownBy (wq.setCell ⟨g, 5, none⟩ (.slice A (q + 1) c)) (some g) := ⟨rfl, rfl, rfl, by simp [World.setCell], fun kk hk hn => Below.heap_setCell _ _ _ _ (fun e => hn (by rw [e]))⟩
            exact hK _ undef _ rfl ⟨HT.out.set nbl _, HP.out.trans (Past.set (by simp) _), (fun h => absurd h (by decide)), (fun h => absurd h (by decide)), fun _ => ⟨A, c, x, (show some (u 8) = some _ from by rw [HU.out]), x0, x1, hown.kept hgr (by cases hvb : (Value.slice A (q + 1) c).ownBlock with | none => exact .inl rfl | some kk => exact .inr (fun e => by injection e with e; exact (hnn kk hvb).1 e)), hnn, fun _ => hG2⟩⟩ (Past.set (by simp) _) trivial
          exact calmSteps_nil
        · intro u w5 hC hF
          obtain ⟨hT, hP, -, -, hM⟩ := hC
          obtain ⟨A1, c1, x, hu, x0, x1, hown, -, hG⟩ := hM (by decide)
          replace hG := hG rfl
          clear hF hu hM
          have hR5 : Blk w5 w.heap.size 51 #[.int .i64 0, .int .i64 0, .int .i64 0, .int .i64 0, .int .i64 0, .slice none 0 0, .slice none 0 0] := hP.blk bR (fun hm => by simp only [List.mem_cons, Option.mem_toList] at hm; rcases hm with e | e | e <;> first | omega | (have := hXl _ e; omega))
          have K5 : GB b w w5 := Past.gb KR hP (by intro kk hm; simp only [List.mem_cons, Option.mem_toList] at hm; rcases hm with e | e | e <;> first | (exact .inl e) | (exact .inr (by omega)) | (exact .inr (by have := hXl _ e; omega)))
          have S5 := hP.1
          have HT5 := Lib.hid hT
          clear hT hP KR bX cX fX lX eX kX bR cR fR lR eR kR HT
          go_wp2
          go_roundg (k - (q + 1))
          case measure => omega
          case rel => exact ⟨q + 1, A1, c1, es ++ [x], by omega, by omega, by go_num, by simp [HEL.out], fun y hy => by rcases List.mem_append.1 hy with h | h <;> first | exact HES.out y h | (rw [List.mem_singleton.1 h]; exact ⟨x0, x1⟩), by rw [ints_snoc, HXS.out]; exact hown, by omega, hG, hR5, HT5.out, K5⟩
      · obtain rfl : q = k := by omega
        have gq : decide ((q : Int) < (q : Int)) = false := decide_eq_false (by omega)
        have hEs := nums_of_own (b := b) (A := A0) (cap := c0) (es := es) (by rw [hel]; exact hrow) (by omega) (by omega)
        rw [hel] at hEs
        have hgbE : ∀ ge, A0 = some ⟨ge, 0, none⟩ → base ≤ ge := fun ge e => (hrow.lt ge (by rw [e]; rfl)).1
        have HGBE := Lib.hid hgbE; clear hgbE
        have HE := Lib.hid hEs; have HES := Lib.hid hes; have HEL := Lib.hid hel; clear hEs hes hel hrow
        skip
        go_wp2_with fail
        refine (int_any _ n _ (by (repeat' (first | (with_reducible exact HT.out) | (with_reducible refine' TapeAt.alloc ?_ _) | (with_reducible refine' TapeAt.drew ?_) | (with_reducible refine' TapeAt.drewN ?_ _) | (with_reducible refine' TapeAt.set ?_ ?_ _))) <;> (first | omega | (simp <;> omega))) (by omega) (by omega)).mono ?_
        rintro e w5 ⟨mv, rfl, mv0, mv1, ht5, hg5⟩
        have HE2 := Lib.hid (HE.out.gb (show GB b _ _ from hg5))
        have K5 : GB b w w5 := GB.tap hg5 (by (try show GB b w _); (repeat' (first | (with_reducible exact KR) | (with_reducible refine GB.setCell ?_ ?_ _) | (with_reducible refine GB.alloc ?_ _) | (with_reducible refine GB.drew ?_) | (with_reducible refine GB.drewN ?_ _))) <;> (first | omega | (simp <;> omega)))
        have Z5 : w.heap.size ≤ w5.heap.size := K5.size
        have bX' := Blk.keepG (g := g) hg5 (by (repeat' (first | (with_reducible refine' Blk.alloc ?_ _) | (with_reducible refine' Blk.drew ?_) | (with_reducible refine' Blk.drewN ?_ _) | (with_reducible refine' Blk.put ?_ ?_) | (with_reducible refine' Blk.far ?_ ?_ _) | exact bX | exact rfl)) <;> (first | omega | (simp <;> omega))) (by first | omega | (simp <;> omega))
        (try simp only [List.setIfInBounds_toArray, List.set_cons_zero, List.set_cons_succ] at bX')
        have bR' := Blk.keepG (g := w.heap.size) hg5 (by (repeat' (first | (with_reducible refine' Blk.alloc ?_ _) | (with_reducible refine' Blk.drew ?_) | (with_reducible refine' Blk.drewN ?_ _) | (with_reducible refine' Blk.put ?_ ?_) | (with_reducible refine' Blk.far ?_ ?_ _) | exact bR | exact rfl)) <;> (first | omega | (simp <;> omega))) (by first | omega | (simp <;> omega))
        (try simp only [List.setIfInBounds_toArray, List.set_cons_zero, List.set_cons_succ] at bR')
        clear HT; have T5 := ht5.lt; have HT := Lib.hid ht5; clear ht5
        clear hg5 KR
        clear bX cX fX lX eX kX; have bX := bX'; clear bX'
        clear bR cR fR lR eR kR; have bR := bR'; clear bR'
        obtain ⟨cX, fX, lX, eX, kX⟩ := Blk.facts bX
        obtain ⟨cR, fR, lR, eR, kR⟩ := Blk.facts bR
        obtain ⟨m, hm⟩ : ∃ m : Nat, 1 + mv = (m : Int) := ⟨(1 + mv).toNat, by omega⟩
        have m0 : 1 ≤ m := by omega
        have m1 : (m : Int) ≤ n := by omega
        have wm : IntKind.i64.wrap (1 + mv) = (m : Int) := by rw [IntWalk.i64_in _ (by omega)]; exact hm
        have HMV := Lib.hid hm; clear hm
        skip
        clear mv0 mv1
        go_wp2
        obtain ⟨base2, hbase2⟩ : ∃ base2, base2 = w5.heap.size := ⟨_, rfl⟩
        have hgb2 : g < base2 := by omega
        have hRb2 : w.heap.size < base2 := by omega
        have HEG := Lib.hid (show ∃ ge, A0 = some ⟨ge, 0, none⟩ ∧ ge < base2 ∧ g < ge ∧ ge ≠ b from (by obtain ⟨-, ge, cur, e, hn, hB, -⟩ := HE2.out; have := HGBE.out ge e; have := hB.lt; exact ⟨ge, e, by omega, by omega, hn⟩))
        go_loopg [10] m (fun G i wr => SRel w b g base2 sta loc p li ai A0 q c0 es lying m G i wr)
        case atStart => exact ⟨0, none, 0, [], by omega, by omega, (by simp), rfl, by simp, World.ownsRow_nil _ _ _ _, by omega, by (repeat' (first | (with_reducible refine' Blk.alloc ?_ _) | (with_reducible refine' Blk.drew ?_) | (with_reducible refine' Blk.drewN ?_ _) | (with_reducible refine' Blk.put ?_ ?_) | (with_reducible refine' Blk.far ?_ ?_ _) | exact bX | exact rfl)) <;> (first | omega | (simp <;> omega)), by (repeat' (first | (with_reducible refine' Blk.alloc ?_ _) | (with_reducible refine' Blk.drew ?_) | (with_reducible refine' Blk.drewN ?_ _) | (with_reducible refine' Blk.put ?_ ?_) | (with_reducible refine' Blk.far ?_ ?_ _) | exact bR | exact rfl)) <;> (first | omega | (simp <;> omega)), HE2.out, (by (repeat' (first | (with_reducible exact HT.out) | (with_reducible refine' TapeAt.alloc ?_ _) | (with_reducible refine' TapeAt.drew ?_) | (with_reducible refine' TapeAt.drewN ?_ _) | (with_reducible refine' TapeAt.set ?_ ?_ _))) <;> (first | omega | (simp <;> omega))), by (try show GB b w _); (repeat' (first | (with_reducible exact K5) | (with_reducible refine GB.setCell ?_ ?_ _) | (with_reducible refine GB.alloc ?_ _) | (with_reducible refine GB.drew ?_) | (with_reducible refine GB.drewN ?_ _))) <;> (first | omega | (simp <;> omega))⟩
        case round =>
          obtain ⟨j, SA0, sc0, xs, hj, rfl, rfl, hxl, hxs, hrow, hbw, bX', bR', hEr, htr, KR2⟩ := hrel
          clear bX cX fX lX eX kX bR cR fR lR eR kR HT K5
          have bX := bX'; have bR := bR'; clear bX' bR'
          have ZR2 := KR2.size
          have TR2 := htr.lt
          have HT := Lib.hid htr; have HEr := Lib.hid hEr; clear htr hEr
          obtain ⟨cX, fX, lX, eX, kX⟩ := Blk.facts bX
          obtain ⟨cR, fR, lR, eR, kR⟩ := Blk.facts bR
          by_cases hlt2 : j < m
          · have gj : decide (0 < ((m - j : Nat) : Int)) = true := decide_eq_true (by omega)
            have wj : IntKind.i64.wrap (((m - j : Nat) : Int) - 1) = ((m - (j + 1) : Nat) : Int) := by rw [IntWalk.i64_in _ (by omega)]; omega
            obtain ⟨mj, hmj⟩ : ∃ mj : Nat, m - j = mj := ⟨_, rfl⟩
            rw [hmj] at gj wj ⊢
            have gj2 : decide (0 < mj) = true := decide_eq_true (by omega)
            have HMJ := Lib.hid hmj; clear hmj
            obtain ⟨i0, hi, hz0, hz1, hz2⟩ := info_parts infoStep
            have R := Lib.hid (fun W (h : TapeAt W b) (hE : NumsAt W b A0 q es) => step_any b sta loc p li ai A0 q c0 es SA0 j sc0 lying W h hE (by omega) (by omega) HES.out p0 p1)
            generalize hv : (Value.slice SA0 j sc0) = v at *
            have HV := Lib.hid hv; clear hv
            generalize hX : v.ownBlock = X at *
            have hXl : ∀ kk, X = some kk → base2 ≤ kk ∧ kk < wr.heap.size := fun kk hk => hrow.lt kk (hX.trans hk)
            have HXX := Lib.hid hX; clear hX
            have HXS := Lib.hid hxs; have HXL := Lib.hid hxl; clear hxs hxl
            generalize hvs : stpCells xs = vs at *
            have HVS := Lib.hid hvs; clear hvs
            have nbl : b < g := by omega
            have hb2 : b < base2 := by omega
            go_wp2_with fail
            refine wp_region_calmS (by kernel_rfl) (fun n us w' => TapeAt w' b ∧ Past (b :: g :: X.toList) wr w' ∧ (n = 0 → w'.ownsRow base2 56 11 v j vs) ∧ (n ≤ 1 → Blk w' g 51 #[.int .i64 sta, .int .i64 loc, .int .i64 p, .int .i64 li, .int .i64 ai, .slice A0 q c0, v]) ∧ (1 ≤ n → ∃ (A : Option Addr) (c : Nat) (x : Stp), us[0]? = some (.slice A (j + 1) c) ∧ StpOk p es li lying x ∧ w'.ownsRow base2 56 11 (.slice A (j + 1) c) (j + 1) (vs ++ x.cs) ∧ (∀ kk, (Value.slice A (j + 1) c).ownBlock = some kk → kk ≠ g ∧ kk ≠ b) ∧ (n = 2 → Blk w' g 51 #[.int .i64 sta, .int .i64 loc, .int .i64 p, .int .i64 li, .int .i64 ai, .slice A0 q c0, .slice A (j + 1) c])) ∧ NumsAt w' b A0 q es) (Past (b :: g :: X.toList)) [(Is (.pointer (some ⟨g, 6, none⟩))), (Is v), (Is (.pointer (some ⟨b, 0, none⟩))), (Is (.agg #[.int .i64 sta, .int .i64 loc, .int .i64 p, .int .i64 li, .int .i64 ai, .slice A0 q c0, v])), (Is (.bool lying)), (Pure fun _ v => ∃ x : Stp, v = .agg x.cs.toArray ∧ StpOk p es li lying x), (fun _ v w => ∃ (gl : Nat) (x : Stp), v = .slice (some ⟨gl, 0, none⟩) 1 1 ∧ StpOk p es li lying x ∧ gl ∉ (b :: g :: X.toList) ∧ Blk w gl 56 x.cs.toArray), (fun _ _ _ => True), (Is (.pointer (some ⟨g, 6, none⟩))), (fun _ _ _ => True)] [[], [0], [], [], [], [2, 3, 4], [5], [1, 6], [], [8]] [7, 9] [7] rfl (by kernel_rfl) (fun u => by (simp only [calmPut, Act.put, List.setIfInBounds_toArray, List.set_cons_zero, List.set_cons_succ, Nat.zero_add, Nat.reduceAdd]; rfl)) ?_ (calmKeep_cons keep_is' (calmKeep_cons keep_is' (calmKeep_cons keep_is' (calmKeep_cons keep_is' (calmKeep_cons keep_is' (calmKeep_cons keep_pure (calmKeep_cons (fun _ _ _ _ h ⟨gl, x, e, h0, hn, hb⟩ => ⟨gl, x, e, h0, hn, h.blk hb hn⟩) (calmKeep_cons keep_triv (calmKeep_cons keep_is' (calmKeep_cons keep_triv (calmKeep_nil))))))))))) ?_ ?_
            · skip
              exact ⟨HT.out.drew, (Past.refl _ _).drew, fun _ => hrow, fun _ => bX, fun h => absurd h (by decide), HEr.out⟩
            · skip
              refine calmSteps_cons (fun u wq n hn hn2 hC hk K hK => ?_) ?_
              · obtain ⟨hT, hP, hR, hG, hM, hE⟩ := hC
                clear hk
                have HT := Lib.hid hT; have HP := Lib.hid hP; have hsz := hP.1; clear hT hP
                obtain rfl : n = 0 := Nat.le_zero.1 (hn2 0 7 rfl (by kernel_rfl)); replace hR := hR rfl; replace hG := hG (by omega)
                go_simp
                exact hK _ _ _ rfl ⟨HT.out, HP.out, fun _ => hR, fun _ => hG, (fun h => absurd h (by decide)), hE⟩ (Past.refl _ _) rfl
              refine calmSteps_cons (fun u wq n hn hn2 hC hk K hK => ?_) ?_
              · obtain ⟨hT, hP, hR, hG, hM, hE⟩ := hC
                simp only [calmKnown, List.getElem?_cons_zero, List.getElem?_cons_succ, and_true, Is, Pure, Option.some.injEq, List.getD_cons_zero, List.getD_cons_succ, List.map_cons, List.map_nil] at hk
                have h0 := hk; clear hk
                simp only [h0] at hK ⊢
                have H0 := Lib.hid h0; clear h0
                have HT := Lib.hid hT; have HP := Lib.hid hP; have hsz := hP.1; clear hT hP
                obtain rfl : n = 0 := Nat.le_zero.1 (hn2 0 7 rfl (by kernel_rfl)); replace hR := hR rfl; replace hG := hG (by omega)
                have cG := hG.cell
                go_simp
                exact hK _ _ _ rfl ⟨HT.out, HP.out, fun _ => hR, fun _ => hG, (fun h => absurd h (by decide)), hE⟩ (Past.refl _ _) rfl
              refine calmSteps_cons (fun u wq n hn hn2 hC hk K hK => ?_) ?_
              · obtain ⟨hT, hP, hR, hG, hM, hE⟩ := hC
                clear hk
                have HT := Lib.hid hT; have HP := Lib.hid hP; have hsz := hP.1; clear hT hP
                obtain rfl : n = 0 := Nat.le_zero.1 (hn2 0 7 rfl (by kernel_rfl)); replace hR := hR rfl; replace hG := hG (by omega)
                go_simp
                exact hK _ _ _ rfl ⟨HT.out, HP.out, fun _ => hR, fun _ => hG, (fun h => absurd h (by decide)), hE⟩ (Past.refl _ _) rfl
              refine calmSteps_cons (fun u wq n hn hn2 hC hk K hK => ?_) ?_
              · obtain ⟨hT, hP, hR, hG, hM, hE⟩ := hC
                clear hk
                have HT := Lib.hid hT; have HP := Lib.hid hP; have hsz := hP.1; clear hT hP
                obtain rfl : n = 0 := Nat.le_zero.1 (hn2 0 7 rfl (by kernel_rfl)); replace hR := hR rfl; replace hG := hG (by omega)
                have cG := hG.cell
                go_simp
                exact hK _ _ _ rfl ⟨HT.out, HP.out, fun _ => hR, fun _ => hG, (fun h => absurd h (by decide)), hE⟩ (Past.refl _ _) rfl
              refine calmSteps_cons (fun u wq n hn hn2 hC hk K hK => ?_) ?_
              · obtain ⟨hT, hP, hR, hG, hM, hE⟩ := hC
                clear hk
                have HT := Lib.hid hT; have HP := Lib.hid hP; have hsz := hP.1; clear hT hP
                obtain rfl : n = 0 := Nat.le_zero.1 (hn2 0 7 rfl (by kernel_rfl)); replace hR := hR rfl; replace hG := hG (by omega)
                go_simp
                exact hK _ _ _ rfl ⟨HT.out, HP.out, fun _ => hR, fun _ => hG, (fun h => absurd h (by decide)), hE⟩ (Past.refl _ _) rfl
              refine calmSteps_cons (fun u wq n hn hn2 hC hk K hK => ?_) ?_
              · obtain ⟨hT, hP, hR, hG, hM, hE⟩ := hC
                simp only [calmKnown, List.getElem?_cons_zero, List.getElem?_cons_succ, and_true, Is, Pure, Option.some.injEq, List.getD_cons_zero, List.getD_cons_succ, List.map_cons, List.map_nil] at hk
                obtain ⟨h2, h3, h4⟩ := hk
                simp only [h2, h3, h4] at hK ⊢
                have H2 := Lib.hid h2; clear h2; have H3 := Lib.hid h3; clear h3; have H4 := Lib.hid h4; clear h4
                have HT := Lib.hid hT; have HP := Lib.hid hP; have hsz := hP.1; clear hT hP
                obtain rfl : n = 0 := Nat.le_zero.1 (hn2 0 7 rfl (by kernel_rfl)); replace hR := hR rfl; replace hG := hG (by omega)
                go_wp2_with fail
                refine (R.out _ HT.out hE).mono ?_
                rintro e w2 ⟨x, rfl, hx, ht, hgr⟩
                have hq := Past.grown (X := (b :: g :: X.toList)) hgr (by simp)
                exact hK _ _ _ rfl ⟨ht, HP.out.trans hq, fun _ => hR.kept hgr (by cases hvb : v.ownBlock with | none => exact .inl rfl | some kk => exact .inr (fun e => by have := hXl kk (by rw [← HXX.out]; exact hvb); injection e with e; omega)), fun _ => Blk.keepG hgr hG (by omega), (fun h => absurd h (by decide)), hE.gb hgr⟩ hq ⟨x, rfl, hx⟩
              refine calmSteps_cons (fun u wq n hn hn2 hC hk K hK => ?_) ?_
              · obtain ⟨hT, hP, hR, hG, hM, hE⟩ := hC
                simp only [calmKnown, List.getElem?_cons_zero, List.getElem?_cons_succ, and_true, Is, Pure, Option.some.injEq, List.getD_cons_zero, List.getD_cons_succ, List.map_cons, List.map_nil] at hk
                obtain ⟨⟨a0, a1, a2, a3, a4, a5, a6, a7, a8, a9, a10⟩, h5, hok⟩ := hk
                simp only [h5] at hK ⊢
                have H5 := Lib.hid h5; clear h5
                have HT := Lib.hid hT; have HP := Lib.hid hP; have hsz := hP.1; clear hT hP
                obtain rfl : n = 0 := Nat.le_zero.1 (hn2 0 7 rfl (by kernel_rfl)); replace hR := hR rfl; replace hG := hG (by omega)
                simp only [Stp.cs] at hK ⊢
                go_simp
                exact hK _ _ _ rfl ⟨HT.out.alloc _, HP.out.trans (Past.alloc _ _ _), fun _ => hR.alloc _, fun _ => hG.alloc _, (fun h => absurd h (by decide)), hE.below ((Below.refl _ _).alloc (Nat.le_refl _) _)⟩ (Past.alloc _ _ _) ⟨wq.heap.size, ⟨a0, a1, a2, a3, a4, a5, a6, a7, a8, a9, a10⟩, rfl, hok, (fun hm => by have hz2 : wr.heap.size ≤ wq.heap.size := HP.out.1; simp only [List.mem_cons, Option.mem_toList] at hm; rcases hm with e | e | e <;> first | omega | (have := hXl _ e; omega)), Blk.new _ _ _⟩
              refine calmSteps_cons (fun u wq n hn hn2 hC hk K hK => ?_) ?_
              · obtain ⟨hT, hP, hR, hG, hM, hE⟩ := hC
                simp only [calmKnown, List.getElem?_cons_zero, List.getElem?_cons_succ, and_true, Is, Pure, Option.some.injEq, List.getD_cons_zero, List.getD_cons_succ, List.map_cons, List.map_nil] at hk
                obtain ⟨h1, ⟨gl, x, h6, xok, hgX, hgB⟩⟩ := hk
                simp only [h1, h6] at hK ⊢
                have H1 := Lib.hid h1; clear h1; have H6 := Lib.hid h6; clear h6
                obtain rfl := hn 0 rfl
                replace hR := hR rfl; replace hG := hG (by omega)
                have HT := Lib.hid hT; have HP := Lib.hid hP; have hsz := hP.1; clear hT hP
                refine calm_op (by rfl) ?_
                refine wp_append_lies _ _ _ 49 rfl base2 56 i0 (.agg #[.int .i64 0, .int .i64 0, .int .i64 0, .int .i64 0, .int .i64 0, .int .i64 0, .int .i64 0, .int .i64 0, .int .i64 0, .int .i64 0, .int .i64 0]) 11 88 Tryz.underlying49 hi hz0 hz1 hz2 rfl (by decide) v j vs rfl hR ⟨gl, 0, none⟩ 1 1 x.cs rfl rfl (World.news_of_block (t := 56) (fr := (0, 0)) hgB) (by simp [Stp.cs, Value.oneCell']) (by omega) (by unfold maxLen; omega) (by omega) (by omega) wq.heap.size rfl ?_
                intro g' c' w' hown' hgrow hlie _
                rw [HXX.out] at hgrow hlie
                have hpp : Past (b :: g :: X.toList) wq w' := Past.grownX hgrow (fun kk hk => by simp [hk])
                have hgg : g' ≠ g ∧ g' ≠ b := by rcases hlie with e | e <;> first | omega | (have := hXl _ e; omega)
                have hG' : Blk w' g 51 #[.int .i64 sta, .int .i64 loc, .int .i64 p, .int .i64 li, .int .i64 ai, .slice A0 q c0, v] := (hgrow.block g hG.lt (fun e => by have := hXl g e.symm; omega)).trans hG
                have hT' : TapeAt w' b := HT.out.kept (fun kk hk => hgrow.block kk (by have := HT.out.lt; omega) (fun e => by have := hXl kk e.symm; omega))
                exact hK _ _ _ rfl ⟨hT', HP.out.trans hpp, fun h => absurd h (by decide), fun _ => hG', fun _ => ⟨_, _, x, rfl, xok, hown', fun kk hkk => by simp [Value.ownBlock] at hkk; omega, fun h => absurd h (by decide)⟩, hE.past hpp (fun ge e hm => by obtain ⟨ge', e', hl, hl2, hl3⟩ := HEG.out; have : ge = ge' := (by rw [e'] at e; injection e with e; injection e with e; exact e.symm); simp only [List.mem_cons, Option.mem_toList] at hm; rcases hm with h | h | h <;> first | omega | (have := hXl _ h; omega))⟩ hpp trivial
              refine calmSteps_cons (fun u wq n hn hn2 hC hk K hK => ?_) ?_
              · obtain ⟨hT, hP, hR, hG, hM, hE⟩ := hC
                clear hk
                have hn1 := hn2 1 9 rfl (by kernel_rfl)
                have HT := Lib.hid hT; have HP := Lib.hid hP; have hsz := hP.1; clear hT hP
                go_simp
                exact hK _ _ _ rfl ⟨HT.out, HP.out, hR, hG, hM, hE⟩ (Past.refl _ _) rfl
              refine calmSteps_cons (fun u wq n hn hn2 hC hk K hK => ?_) ?_
              · obtain ⟨hT, hP, hR, hG, hM, hE⟩ := hC
                simp only [calmKnown, List.getElem?_cons_zero, List.getElem?_cons_succ, and_true, Is, Pure, Option.some.injEq, List.getD_cons_zero, List.getD_cons_succ, List.map_cons, List.map_nil] at hk
                have h8 := hk; clear hk
                simp only [h8] at hK ⊢
                have H8 := Lib.hid h8; clear h8
                obtain rfl := hn 1 rfl
                have HT := Lib.hid hT; have HP := Lib.hid hP; have hsz := hP.1; clear hT hP
                replace hG := hG (by omega)
                obtain ⟨A, c, x, hu, xok, hown, hnn, -⟩ := hM (by omega)
                have hu7 : u 7 = .slice A (j + 1) c := Option.some.inj (show some (u 7) = some _ from hu)
                simp only [hu7] at hK ⊢
                have cG := hG.cell
                have fG := hG.frozen
                have lG := hG.lt
                have hG2 := hG.set_ 6 (.slice A (j + 1) c)
                simp only [List.setIfInBounds_toArray, List.set_cons_zero, List.set_cons_succ] at hG2
                have HU := Lib.hid hu7; clear hu7 hu
                go_simp
                have hgr : wq.grownBy (wq.setCell ⟨g, 6, none⟩ (.slice A (j + 1) c)) (some g) := ⟨rfl, rfl, rfl, by simp [World.setCell], fun kk hk hn => Below.heap_setCell _ _ _ _ (fun e => hn (by rw [e]))⟩
                exact hK _ undef _ rfl ⟨HT.out.set nbl _, HP.out.trans (Past.set (by simp) _), (fun h => absurd h (by decide)), (fun h => absurd h (by decide)), fun _ => ⟨A, c, x, (show some (u 7) = some _ from by rw [HU.out]), xok, hown.kept hgr (by cases hvb : (Value.slice A (j + 1) c).ownBlock with | none => exact .inl rfl | some kk => exact .inr (fun e => by injection e with e; exact (hnn kk hvb).1 e)), hnn, fun _ => hG2⟩, hE.past (X := (b :: g :: X.toList)) (Past.set (by simp) _) (fun ge e hm => by obtain ⟨ge', e', hl, hl2, hl3⟩ := HEG.out; have : ge = ge' := (by rw [e'] at e; injection e with e; injection e with e; exact e.symm); simp only [List.mem_cons, Option.mem_toList] at hm; rcases hm with h | h | h <;> first | omega | (have := hXl _ h; omega))⟩ (Past.set (by simp) _) trivial
              exact calmSteps_nil
            · intro u w8 hC hF
              obtain ⟨hT, hP, -, -, hM, hE⟩ := hC
              obtain ⟨A1, c1, x, hu, xok, hown, -, hG⟩ := hM (by decide)
              replace hG := hG rfl
              clear hF hu hM
              have hR8 : Blk w8 w.heap.size 51 #[.int .i64 0, .int .i64 0, .int .i64 0, .int .i64 0, .int .i64 0, .slice none 0 0, .slice none 0 0] := hP.blk bR (fun hm => by simp only [List.mem_cons, Option.mem_toList] at hm; rcases hm with e | e | e <;> first | omega | (have := hXl _ e; omega))
              have K8 : GB b w w8 := Past.gb KR2 hP (by intro kk hm; simp only [List.mem_cons, Option.mem_toList] at hm; rcases hm with e | e | e <;> first | (exact .inl e) | (exact .inr (by omega)) | (exact .inr (by have := hXl _ e; omega)))
              have S8 := hP.1
              have HT8 := Lib.hid hT; have HE8 := Lib.hid hE
              clear hT hP hE KR2 bX cX fX lX eX kX bR cR fR lR eR kR HT
              go_wp2
              go_roundg (m - (j + 1))
              case measure => have := HMJ.out; omega
              case rel => exact ⟨j + 1, A1, c1, xs ++ [x], by omega, by omega, by go_num, by simp [HXL.out], fun y hy => by rcases List.mem_append.1 hy with h | h <;> first | exact HXS.out y h | (rw [List.mem_singleton.1 h]; exact xok), by rw [stpCells_snoc, HVS.out]; exact hown, by omega, hG, hR8, HE8.out, HT8.out, K8⟩
          · obtain rfl : j = m := by omega
            have gj : decide (0 < ((j - j : Nat) : Int)) = false := decide_eq_false (by omega)
            have hSt := steps_of_own (b := b) (A := SA0) (cap := sc0) (xs := xs) (by rw [hxl]; exact hrow) (by omega) (by omega)
            have hgS : ∀ ge, SA0 = some ⟨ge, 0, none⟩ → base2 ≤ ge := fun ge e => (hrow.lt ge (by rw [e]; rfl)).1
            have HGS := Lib.hid hgS; clear hgS
            have HS := Lib.hid hSt; have HXL := Lib.hid hxl; clear hSt hxl hrow
            obtain ⟨mj, hmj⟩ : ∃ mj : Nat, j - j = mj := ⟨_, rfl⟩
            rw [hmj] at gj ⊢
            have gj2 : decide (0 < mj) = false := decide_eq_false (by omega)
            have HMJ := Lib.hid hmj; clear hmj
            go_wp2
            have hfin : SchOk sta loc p li ai es xs n lying := ⟨s0, s1, s2, s3, p0, p1, li0, by rw [HEL.out]; omega, s6, s7, by rw [HEL.out]; omega, by rw [HEL.out]; omega, HES.out, by rw [HXL.out]; omega, by rw [HXL.out]; omega, hxs⟩
            have HFIN := Lib.hid hfin; clear hfin
            refine bodyPost_ret (v := .agg #[.int .i64 sta, .int .i64 loc, .int .i64 p, .int .i64 li, .int .i64 ai, .slice A0 q c0, .slice SA0 j sc0]) (by simp [results, Tryz.results18, go_sem, *]) rfl ⟨sta, loc, p, li, ai, A0, SA0, c0, sc0, es, xs, by rw [HEL.out, HXL.out], HFIN.out, ?_, ?_, (by (repeat' (first | (with_reducible exact HT.out) | (with_reducible refine' TapeAt.alloc ?_ _) | (with_reducible refine' TapeAt.drew ?_) | (with_reducible refine' TapeAt.drewN ?_ _) | (with_reducible refine' TapeAt.set ?_ ?_ _))) <;> (first | omega | (simp <;> omega))), (by (try show GB b w _); (repeat' (first | (with_reducible exact KR2) | (with_reducible refine GB.setCell ?_ ?_ _) | (with_reducible refine GB.alloc ?_ _) | (with_reducible refine GB.drew ?_) | (with_reducible refine GB.drewN ?_ _))) <;> (first | omega | (simp <;> omega))), ?_, ?_⟩
            · rw [HEL.out]; exact HEr.out.past (X := [w.heap.size]) (by (repeat' (first | (with_reducible exact Past.refl _ _) | (with_reducible refine Past.setIn ?_ ?_ _) | (with_reducible refine Past.drewN ?_ _))) <;> simp) (fun ge e hm => by obtain ⟨ge', e', hl, hl2, hl3⟩ := HEG.out; have : ge = ge' := (by rw [e'] at e; injection e with e; injection e with e; exact e.symm); simp at hm; omega)
            · exact HS.out.past (X := [w.heap.size]) (by (repeat' (first | (with_reducible exact Past.refl _ _) | (with_reducible refine Past.setIn ?_ ?_ _) | (with_reducible refine Past.drewN ?_ _))) <;> simp) (fun ge e hm => by have := HGS.out ge e; simp at hm; omega)
            · intro ge e; obtain ⟨ge', e', hl, hl2, hl3⟩ := HEG.out; have : ge = ge' := (by rw [e'] at e; injection e with e; injection e with e; exact e.symm); omega
            · intro ge e; have := HGS.out ge e; omega
theorem sched_any (b : Nat) (n : Int) (lying : Bool) (w : World) (h : TapeAt w b) (hn0 : 1 ≤ n) (hn1 : n ≤ 64) :
    Calls Tryz.prog 18 #[.pointer (some ⟨b, 0, none⟩), .int .i64 n, .bool lying] w fun e w' => ∃ (sta loc p li ai : Int) (A SA : Option Addr) (cap scap : Nat) (es : List Int) (xs : List Stp), e = .returned (.agg #[.int .i64 sta, .int .i64 loc, .int .i64 p, .int .i64 li, .int .i64 ai, .slice A es.length cap, .slice SA xs.length scap]) ∧ SchOk sta loc p li ai es xs n lying ∧ NumsAt w' b A es.length es ∧ StepsAt w' b SA xs ∧ TapeAt w' b ∧ w.grownBy w' (some b) := by
  refine (sched_new b n lying w h hn0 hn1).mono ?_
  rintro e w' ⟨sta, loc, p, li, ai, A, SA, cap, scap, es, xs, h1, h2, h3, h4, h5, h6, -, -⟩
  exact ⟨sta, loc, p, li, ai, A, SA, cap, scap, es, xs, h1, h2, h3, h4, h5, h6⟩
end Go.Proofs.YtiinmhfolfgobaaGreatDoor
