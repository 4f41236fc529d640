/- (*sectimecase.Tape).step: a step of a schedule. -/
import Derived.Deep.DeepCutAuto
import Derived.Deep.DrawnRows
import Derived.Test.YtiinmhfolfgobaaGreatDoorJ11
namespace Go.Proofs.YtiinmhfolfgobaaGreatDoor
open Go.RowKit
set_option linter.unusedSimpArgs false
set_option linter.unusedVariables false

theorem es_in {es : List Int} {k : Nat} (hl : es.length = k) (he : ∀ x ∈ es, 0 ≤ x ∧ x ≤ 20) {j : Int} (h0 : 0 ≤ j) (h1 : j < k) : 0 ≤ es.getD j.toNat 0 ∧ es.getD j.toNat 0 ≤ 20 := by
  have : j.toNat < es.length := by omega
  rw [List.getD_eq_getElem?_getD, List.getElem?_eq_getElem this]
  exact he _ (List.getElem_mem _)
/-- The stores of the four advances: n of them are done. -/
def stored (c : List Value) : Nat → List Value → List Value
  | 0, _ => c
  | 1, us => c.set 2 (us.getD 0 undef)
  | 2, us => (c.set 2 (us.getD 0 undef)).set 4 (us.getD 1 undef)
  | 3, us => ((c.set 2 (us.getD 0 undef)).set 4 (us.getD 1 undef)).set 6 (us.getD 2 undef)
  | _, us => (((c.set 2 (us.getD 0 undef)).set 4 (us.getD 1 undef)).set 6 (us.getD 2 undef)).set 8 (us.getD 3 undef)
def FitF (e p : Int) (v : Value) : Prop := ∃ r : Int, v = .int .i64 r ∧ 0 ≤ r ∧ r ≤ 3003001 ∧ fitsP e r p
def IntF : List Value → Value → World → Prop := fun _ v _ => ∃ x : Int, v = .int .i64 x
set_option maxRecDepth 100000 in
set_option maxHeartbeats 4000000 in
theorem step_any (b : Nat) (sta loc p li ai : Int) (A : Option Addr) (k cap : Nat) (es : List Int) (SA : Option Addr) (sl scap : Nat) (lying : Bool) (w : World) (h : TapeAt w b) (hE : NumsAt w b A k es) (hk0 : 1 ≤ k) (hk1 : k ≤ 100) (hes : ∀ x ∈ es, 0 ≤ x ∧ x ≤ 20) (p0 : 0 ≤ p) (p1 : p ≤ 1000000) :
    Calls Tryz.prog 43 #[.pointer (some ⟨b, 0, none⟩), .agg #[.int .i64 sta, .int .i64 loc, .int .i64 p, .int .i64 li, .int .i64 ai, .slice A k cap, .slice SA sl scap], .bool lying] w fun e w' => ∃ x : Stp, e = .returned (.agg x.cs.toArray) ∧ StpOk p es li lying x ∧ TapeAt w' b ∧ w.grownBy w' (some b) := by
  have hb := h.lt
  have HT := Lib.hid h; clear h
  have HE := Lib.hid hE; clear hE
  have HES := Lib.hid hes; clear hes
  go_enter Tryz.func43, Tryz.ntmps43
  go_wp2_with fail
  skip
  refine wp_region_calm (by kernel_rfl) (fun n us w' => TapeAt w' b ∧ Past [b] ((w.alloc (.cells #[.int .i64 sta, .int .i64 loc, .int .i64 p, .int .i64 li, .int .i64 ai, .slice A k cap, .slice SA sl scap] 51)).alloc (.cells #[.int .i64 0, .int .i64 0, .int .i64 0, .int .i64 0, .int .i64 0, .int .i64 0, .int .i64 0, .int .i64 0, .int .i64 0, .int .i64 0, .int .i64 0] 56)) w' ∧ NewC (w.heap.size + 2) 56 #[.int .i64 0, .int .i64 0, .int .i64 0, .int .i64 0, .int .i64 0, .int .i64 0, .int .i64 0, .int .i64 0, .int .i64 0, .int .i64 0, .int .i64 0] n us w' ∧ Blk w' w.heap.size 51 #[.int .i64 sta, .int .i64 loc, .int .i64 p, .int .i64 li, .int .i64 ai, .slice A k cap, .slice SA sl scap]) (PastN 56 [b]) [(Is (.pointer (some ⟨b, 0, none⟩))), (Is (.pointer (some ⟨w.heap.size, 5, none⟩))), (Is (.slice A k cap)), (Is (.int .i64 k)), (InR 0 k), (Is (.pointer (some ⟨b, 0, none⟩))), (InR 0 3000001), (Is (.pointer (some ⟨b, 0, none⟩))), (InR 0 3000001), (SliceN [b] 3 3 #[.int .i64 0, .int .i64 2, .int .i64 50]), (Is (.pointer (some ⟨b, 0, none⟩))), (InR 0 3), (PtrN [b] 3 3 #[.int .i64 0, .int .i64 2, .int .i64 50]), (InR 0 51), (Is (.pointer (some ⟨b, 0, none⟩))), (InR 0 3000001), (Pure fun _ v => ∃ (src tr ou ho ba : Int), v = .agg #[.int .i64 src, .int .i64 tr, .int .i64 0, .int .i64 ou, .int .i64 0, .int .i64 ho, .int .i64 0, .int .i64 ba, .int .i64 0, .int .i64 0, .int .i64 0] ∧ 0 ≤ src ∧ src < k ∧ 0 ≤ tr ∧ tr ≤ 3000000 ∧ 0 ≤ ou ∧ ou ≤ 3000000 ∧ 0 ≤ ho ∧ ho ≤ 50 ∧ 0 ≤ ba ∧ ba ≤ 3000000), (fun _ _ _ => True), (fun _ _ _ => True)] [[], [], [1], [2], [0, 3], [], [5], [], [7], [], [], [10], [9, 11], [12], [], [14], [4, 6, 8, 13, 15], [], [16]] [17, 18] [17, 16] rfl (by kernel_rfl) (fun u => by (simp only [calmPut, Act.put, List.setIfInBounds_toArray, List.set_cons_zero, List.set_cons_succ, Nat.zero_add, Nat.reduceAdd]; rfl)) ?_ (calmKeep_cons keep_is' (calmKeep_cons keep_is' (calmKeep_cons keep_is' (calmKeep_cons keep_is' (calmKeep_cons keep_inR (calmKeep_cons keep_is' (calmKeep_cons keep_inR (calmKeep_cons keep_is' (calmKeep_cons keep_inR (calmKeep_cons (keep_sliceT (show 3 ≠ 56 from by decide)) (calmKeep_cons keep_is' (calmKeep_cons keep_inR (calmKeep_cons (keep_ptrT (show 3 ≠ 56 from by decide)) (calmKeep_cons keep_inR (calmKeep_cons keep_is' (calmKeep_cons keep_inR (calmKeep_cons keep_pure (calmKeep_cons keep_triv (calmKeep_cons keep_triv (calmKeep_nil)))))))))))))))))))) ?_ ?_
  · intro _
    exact ⟨((HT.out.alloc _).alloc _).drew, (Past.refl _ _).drew, .inl rfl, (Blk.new _ _ _).alloc _⟩
  · skip
    refine calmSteps_cons (fun u wq n hn hn2 hC hk K hK => ?_) ?_
    · obtain ⟨hT, hP, hN, hS⟩ := hC
      clear hk
      have HT := Lib.hid hT; have HP := Lib.hid hP; have hsz := hP.1; simp only [World.size_alloc] at hsz; have cS := hS.cell; have fS := hS.frozen; clear hT hP
      go_simp
      exact hK _ _ _ rfl ⟨HT.out, HP.out, hN, hS⟩ (PastN.refl _ _ _) rfl
    refine calmSteps_cons (fun u wq n hn hn2 hC hk K hK => ?_) ?_
    · obtain ⟨hT, hP, hN, hS⟩ := hC
      clear hk
      have HT := Lib.hid hT; have HP := Lib.hid hP; have hsz := hP.1; simp only [World.size_alloc] at hsz; have cS := hS.cell; have fS := hS.frozen; clear hT hP
      go_simp
      exact hK _ _ _ rfl ⟨HT.out, HP.out, hN, hS⟩ (PastN.refl _ _ _) rfl
    refine calmSteps_cons (fun u wq n hn hn2 hC hk K hK => ?_) ?_
    · obtain ⟨hT, hP, hN, hS⟩ := hC
      simp only [calmKnown, List.getElem?_cons_zero, List.getElem?_cons_succ, and_true, Is, Pure, Option.some.injEq, List.getD_cons_zero, List.getD_cons_succ, List.map_cons, List.map_nil] at hk
      have h1 := hk; clear hk
      simp only [h1] at hK ⊢
      have H1 := Lib.hid h1; clear h1
      have HT := Lib.hid hT; have HP := Lib.hid hP; have hsz := hP.1; simp only [World.size_alloc] at hsz; have cS := hS.cell; have fS := hS.frozen; clear hT hP
      go_simp
      exact hK _ _ _ rfl ⟨HT.out, HP.out, hN, hS⟩ (PastN.refl _ _ _) rfl
    refine calmSteps_cons (fun u wq n hn hn2 hC hk K hK => ?_) ?_
    · obtain ⟨hT, hP, hN, hS⟩ := hC
      simp only [calmKnown, List.getElem?_cons_zero, List.getElem?_cons_succ, and_true, Is, Pure, Option.some.injEq, List.getD_cons_zero, List.getD_cons_succ, List.map_cons, List.map_nil] at hk
      have h2 := hk; clear hk
      simp only [h2] at hK ⊢
      have H2 := Lib.hid h2; clear h2
      have HT := Lib.hid hT; have HP := Lib.hid hP; have hsz := hP.1; simp only [World.size_alloc] at hsz; have cS := hS.cell; have fS := hS.frozen; clear hT hP
      go_simp
      exact hK _ _ _ rfl ⟨HT.out, HP.out, hN, hS⟩ (PastN.refl _ _ _) rfl
    refine calmSteps_cons (fun u wq n hn hn2 hC hk K hK => ?_) ?_
    · obtain ⟨hT, hP, hN, hS⟩ := hC
      simp only [calmKnown, List.getElem?_cons_zero, List.getElem?_cons_succ, and_true, Is, Pure, Option.some.injEq, List.getD_cons_zero, List.getD_cons_succ, List.map_cons, List.map_nil] at hk
      obtain ⟨h0, h3⟩ := hk
      simp only [h0, h3] at hK ⊢
      have H0 := Lib.hid h0; clear h0; have H3 := Lib.hid h3; clear h3
      have HT := Lib.hid hT; have HP := Lib.hid hP; have hsz := hP.1; simp only [World.size_alloc] at hsz; have cS := hS.cell; have fS := hS.frozen; clear hT hP
      go_wp2_with fail
      refine (int_any _ k _ HT.out (by omega) (by omega)).mono ?_
      rintro e w2 ⟨v, rfl, v0, v1, ht, hgr⟩
      have hq := Past.grown (X := [b]) hgr (by simp)
      exact hK _ _ _ rfl ⟨ht, HP.out.trans hq, hN.keep hq (by first | omega | (simp <;> omega)), Past.blk hq hS (by first | omega | (simp <;> omega))⟩ (PastN.past hq) ⟨v, rfl, v0, v1⟩
    refine calmSteps_cons (fun u wq n hn hn2 hC hk K hK => ?_) ?_
    · obtain ⟨hT, hP, hN, hS⟩ := hC
      clear hk
      have HT := Lib.hid hT; have HP := Lib.hid hP; have hsz := hP.1; simp only [World.size_alloc] at hsz; have cS := hS.cell; have fS := hS.frozen; clear hT hP
      go_simp
      exact hK _ _ _ rfl ⟨HT.out, HP.out, hN, hS⟩ (PastN.refl _ _ _) rfl
    refine calmSteps_cons (fun u wq n hn hn2 hC hk K hK => ?_) ?_
    · obtain ⟨hT, hP, hN, hS⟩ := hC
      simp only [calmKnown, List.getElem?_cons_zero, List.getElem?_cons_succ, and_true, Is, Pure, Option.some.injEq, List.getD_cons_zero, List.getD_cons_succ, List.map_cons, List.map_nil] at hk
      have h5 := hk; clear hk
      simp only [h5] at hK ⊢
      have H5 := Lib.hid h5; clear h5
      have HT := Lib.hid hT; have HP := Lib.hid hP; have hsz := hP.1; simp only [World.size_alloc] at hsz; have cS := hS.cell; have fS := hS.frozen; clear hT hP
      go_wp2_with fail
      refine (dur_any _ _ HT.out).mono ?_
      rintro e w2 ⟨v, rfl, v0, v1, ht, hgr⟩
      have hq := Past.grown (X := [b]) hgr (by simp)
      exact hK _ _ _ rfl ⟨ht, HP.out.trans hq, hN.keep hq (by first | omega | (simp <;> omega)), Past.blk hq hS (by first | omega | (simp <;> omega))⟩ (PastN.past hq) ⟨v, rfl, v0, by omega⟩
    refine calmSteps_cons (fun u wq n hn hn2 hC hk K hK => ?_) ?_
    · obtain ⟨hT, hP, hN, hS⟩ := hC
      clear hk
      have HT := Lib.hid hT; have HP := Lib.hid hP; have hsz := hP.1; simp only [World.size_alloc] at hsz; have cS := hS.cell; have fS := hS.frozen; clear hT hP
      go_simp
      exact hK _ _ _ rfl ⟨HT.out, HP.out, hN, hS⟩ (PastN.refl _ _ _) rfl
    refine calmSteps_cons (fun u wq n hn hn2 hC hk K hK => ?_) ?_
    · obtain ⟨hT, hP, hN, hS⟩ := hC
      simp only [calmKnown, List.getElem?_cons_zero, List.getElem?_cons_succ, and_true, Is, Pure, Option.some.injEq, List.getD_cons_zero, List.getD_cons_succ, List.map_cons, List.map_nil] at hk
      have h7 := hk; clear hk
      simp only [h7] at hK ⊢
      have H7 := Lib.hid h7; clear h7
      have HT := Lib.hid hT; have HP := Lib.hid hP; have hsz := hP.1; simp only [World.size_alloc] at hsz; have cS := hS.cell; have fS := hS.frozen; clear hT hP
      go_wp2_with fail
      refine (dur_any _ _ HT.out).mono ?_
      rintro e w2 ⟨v, rfl, v0, v1, ht, hgr⟩
      have hq := Past.grown (X := [b]) hgr (by simp)
      exact hK _ _ _ rfl ⟨ht, HP.out.trans hq, hN.keep hq (by first | omega | (simp <;> omega)), Past.blk hq hS (by first | omega | (simp <;> omega))⟩ (PastN.past hq) ⟨v, rfl, v0, by omega⟩
    refine calmSteps_cons (fun u wq n hn hn2 hC hk K hK => ?_) ?_
    · obtain ⟨hT, hP, hN, hS⟩ := hC
      clear hk
      have HT := Lib.hid hT; have HP := Lib.hid hP; have hsz := hP.1; simp only [World.size_alloc] at hsz; have cS := hS.cell; have fS := hS.frozen; clear hT hP
      go_simp
      exact hK _ _ _ rfl ⟨HT.out.alloc _, HP.out.trans (Past.alloc _ _ _), hN.keep (Past.alloc [b] _ _) (by first | omega | (simp <;> omega)), hS.alloc _⟩ (PastN.past (Past.alloc _ _ _)) ⟨wq.heap.size, rfl, (by simp; omega), Blk.new _ _ _⟩
    refine calmSteps_cons (fun u wq n hn hn2 hC hk K hK => ?_) ?_
    · obtain ⟨hT, hP, hN, hS⟩ := hC
      clear hk
      have HT := Lib.hid hT; have HP := Lib.hid hP; have hsz := hP.1; simp only [World.size_alloc] at hsz; have cS := hS.cell; have fS := hS.frozen; clear hT hP
      go_simp
      exact hK _ _ _ rfl ⟨HT.out, HP.out, hN, hS⟩ (PastN.refl _ _ _) rfl
    refine calmSteps_cons (fun u wq n hn hn2 hC hk K hK => ?_) ?_
    · obtain ⟨hT, hP, hN, hS⟩ := hC
      simp only [calmKnown, List.getElem?_cons_zero, List.getElem?_cons_succ, and_true, Is, Pure, Option.some.injEq, List.getD_cons_zero, List.getD_cons_succ, List.map_cons, List.map_nil] at hk
      have h10 := hk; clear hk
      simp only [h10] at hK ⊢
      have H10 := Lib.hid h10; clear h10
      have HT := Lib.hid hT; have HP := Lib.hid hP; have hsz := hP.1; simp only [World.size_alloc] at hsz; have cS := hS.cell; have fS := hS.frozen; clear hT hP
      go_wp2_with fail
      refine (int_any _ 3 _ HT.out (by omega) (by omega)).mono ?_
      rintro e w2 ⟨v, rfl, v0, v1, ht, hgr⟩
      have hq := Past.grown (X := [b]) hgr (by simp)
      exact hK _ _ _ rfl ⟨ht, HP.out.trans hq, hN.keep hq (by first | omega | (simp <;> omega)), Past.blk hq hS (by first | omega | (simp <;> omega))⟩ (PastN.past hq) ⟨v, rfl, v0, v1⟩
    refine calmSteps_cons (fun u wq n hn hn2 hC hk K hK => ?_) ?_
    · obtain ⟨hT, hP, hN, hS⟩ := hC
      simp only [calmKnown, List.getElem?_cons_zero, List.getElem?_cons_succ, and_true, Is, Pure, Option.some.injEq, List.getD_cons_zero, List.getD_cons_succ, List.map_cons, List.map_nil] at hk
      obtain ⟨⟨g, h9, gn, gb⟩, ⟨x11, h11, p11, q11⟩⟩ := hk
      simp only [h9, h11] at hK ⊢
      have H9 := Lib.hid h9; clear h9; have H11 := Lib.hid h11; clear h11
      have HT := Lib.hid hT; have HP := Lib.hid hP; have hsz := hP.1; simp only [World.size_alloc] at hsz; have cS := hS.cell; have fS := hS.frozen; clear hT hP
      obtain rfl | rfl | rfl : x11 = 0 ∨ x11 = 1 ∨ x11 = 2 := by omega
      all_goals
        go_simp
        exact hK _ _ _ rfl ⟨HT.out, HP.out, hN, hS⟩ (PastN.refl _ _ _) ⟨g, _, rfl, by omega, gn, gb⟩
    refine calmSteps_cons (fun u wq n hn hn2 hC hk K hK => ?_) ?_
    · obtain ⟨hT, hP, hN, hS⟩ := hC
      simp only [calmKnown, List.getElem?_cons_zero, List.getElem?_cons_succ, and_true, Is, Pure, Option.some.injEq, List.getD_cons_zero, List.getD_cons_succ, List.map_cons, List.map_nil] at hk
      obtain ⟨g, kk, h12, hkk, gn, gb⟩ := hk
      simp only [h12] at hK ⊢
      have H12 := Lib.hid h12; clear h12
      have HT := Lib.hid hT; have HP := Lib.hid hP; have hsz := hP.1; simp only [World.size_alloc] at hsz; have cS := hS.cell; have fS := hS.frozen; clear hT hP
      have hc := gb.cell
      obtain rfl | rfl | rfl : kk = 0 ∨ kk = 1 ∨ kk = 2 := by omega
      all_goals
        go_simp
        exact hK _ _ _ rfl ⟨HT.out, HP.out, hN, hS⟩ (PastN.refl _ _ _) ⟨_, rfl, by omega, by omega⟩
    refine calmSteps_cons (fun u wq n hn hn2 hC hk K hK => ?_) ?_
    · obtain ⟨hT, hP, hN, hS⟩ := hC
      clear hk
      have HT := Lib.hid hT; have HP := Lib.hid hP; have hsz := hP.1; simp only [World.size_alloc] at hsz; have cS := hS.cell; have fS := hS.frozen; clear hT hP
      go_simp
      exact hK _ _ _ rfl ⟨HT.out, HP.out, hN, hS⟩ (PastN.refl _ _ _) rfl
    refine calmSteps_cons (fun u wq n hn hn2 hC hk K hK => ?_) ?_
    · obtain ⟨hT, hP, hN, hS⟩ := hC
      simp only [calmKnown, List.getElem?_cons_zero, List.getElem?_cons_succ, and_true, Is, Pure, Option.some.injEq, List.getD_cons_zero, List.getD_cons_succ, List.map_cons, List.map_nil] at hk
      have h14 := hk; clear hk
      simp only [h14] at hK ⊢
      have H14 := Lib.hid h14; clear h14
      have HT := Lib.hid hT; have HP := Lib.hid hP; have hsz := hP.1; simp only [World.size_alloc] at hsz; have cS := hS.cell; have fS := hS.frozen; clear hT hP
      go_wp2_with fail
      refine (dur_any _ _ HT.out).mono ?_
      rintro e w2 ⟨v, rfl, v0, v1, ht, hgr⟩
      have hq := Past.grown (X := [b]) hgr (by simp)
      exact hK _ _ _ rfl ⟨ht, HP.out.trans hq, hN.keep hq (by first | omega | (simp <;> omega)), Past.blk hq hS (by first | omega | (simp <;> omega))⟩ (PastN.past hq) ⟨v, rfl, v0, by omega⟩
    refine calmSteps_cons (fun u wq n hn hn2 hC hk K hK => ?_) ?_
    · obtain ⟨hT, hP, hN, hS⟩ := hC
      simp only [calmKnown, List.getElem?_cons_zero, List.getElem?_cons_succ, and_true, Is, Pure, Option.some.injEq, List.getD_cons_zero, List.getD_cons_succ, List.map_cons, List.map_nil] at hk
      obtain ⟨⟨x4, h4, p4, q4⟩, ⟨x6, h6, p6, q6⟩, ⟨x8, h8, p8, q8⟩, ⟨x13, h13, p13, q13⟩, ⟨x15, h15, p15, q15⟩⟩ := hk
      simp only [h4, h6, h8, h13, h15] at hK ⊢
      have H4 := Lib.hid h4; clear h4; have H6 := Lib.hid h6; clear h6; have H8 := Lib.hid h8; clear h8; have H13 := Lib.hid h13; clear h13; have H15 := Lib.hid h15; clear h15
      have HT := Lib.hid hT; have HP := Lib.hid hP; have hsz := hP.1; simp only [World.size_alloc] at hsz; have cS := hS.cell; have fS := hS.frozen; clear hT hP
      have hn1 := hn2 1 18 rfl (by kernel_rfl)
      go_simp
      exact hK _ _ _ rfl ⟨HT.out, HP.out, NewC.val (show NewC _ _ _ n [u 17, u 16] wq from hN) hn1, hS⟩ (PastN.refl _ _ _) ⟨x4, x6, x8, x13, x15, rfl, p4, q4, p6, by omega, p8, by omega, p13, by omega, p15, by omega⟩
    refine calmSteps_cons (fun u wq n hn hn2 hC hk K hK => ?_) ?_
    · obtain ⟨hT, hP, hN, hS⟩ := hC
      clear hk
      obtain rfl := hn 0 rfl
      have HT := Lib.hid hT; have HP := Lib.hid hP; have hsz := hP.1; simp only [World.size_alloc] at hsz; have cS := hS.cell; have fS := hS.frozen; clear hT hP
      go_simp
      exact hK _ _ _ rfl ⟨HT.out.alloc _, HP.out.trans (Past.alloc _ _ _), NewC.made (x := u 16) hsz, hS.alloc _⟩ (PastN.past (Past.alloc _ _ _)) trivial
    refine calmSteps_cons (fun u wq n hn hn2 hC hk K hK => ?_) ?_
    · obtain ⟨hT, hP, hN, hS⟩ := hC
      simp only [calmKnown, List.getElem?_cons_zero, List.getElem?_cons_succ, and_true, Is, Pure, Option.some.injEq, List.getD_cons_zero, List.getD_cons_succ, List.map_cons, List.map_nil] at hk
      obtain ⟨src, tr, ou, ho, ba, h16, -⟩ := hk
      simp only [h16] at hK ⊢
      have H16 := Lib.hid h16; clear h16
      obtain rfl := hn 1 rfl
      obtain ⟨g, h17, gb, gl, hB⟩ := NewC.one (show NewC _ _ _ 1 [u 17, u 16] wq from hN)
      simp only [h17] at hK ⊢
      have H17 := Lib.hid h17; clear h17 hN
      have gT : b < g := by omega
      have gS : w.heap.size ≠ g := by omega
      have HT := Lib.hid hT; have HP := Lib.hid hP; have hsz := hP.1; simp only [World.size_alloc] at hsz; have cS := hS.cell; have fS := hS.frozen; clear hT hP
      have hf := hB.frozen
      have hc := hB.cell
      go_simp
      have hB2 := setAll_blk [.int .i64 src, .int .i64 tr, .int .i64 0, .int .i64 ou, .int .i64 0, .int .i64 ho, .int .i64 0, .int .i64 ba, .int .i64 0, .int .i64 0, .int .i64 0] 0 wq _ hB
      simp only [setArr, List.setIfInBounds_toArray, List.set_cons_zero, List.set_cons_succ, Nat.zero_add, Nat.reduceAdd] at hB2
      have h1 := setAll_tape gT [.int .i64 src, .int .i64 tr, .int .i64 0, .int .i64 ou, .int .i64 0, .int .i64 ho, .int .i64 0, .int .i64 ba, .int .i64 0, .int .i64 0, .int .i64 0] 0 wq HT.out
      have h2 := setAll_past (X := [b]) (W := ((w.alloc (.cells #[.int .i64 sta, .int .i64 loc, .int .i64 p, .int .i64 li, .int .i64 ai, .slice A k cap, .slice SA sl scap] 51)).alloc (.cells #[.int .i64 0, .int .i64 0, .int .i64 0, .int .i64 0, .int .i64 0, .int .i64 0, .int .i64 0, .int .i64 0, .int .i64 0, .int .i64 0, .int .i64 0] 56))) (g := g) (by simpa using gb) [.int .i64 src, .int .i64 tr, .int .i64 0, .int .i64 ou, .int .i64 0, .int .i64 ho, .int .i64 0, .int .i64 ba, .int .i64 0, .int .i64 0, .int .i64 0] 0 wq HP.out
      have h4 := setAll_far gS [.int .i64 src, .int .i64 tr, .int .i64 0, .int .i64 ou, .int .i64 0, .int .i64 ho, .int .i64 0, .int .i64 ba, .int .i64 0, .int .i64 0, .int .i64 0] 0 wq hS
      have h5 : PastN 56 [b] wq (setAll wq g 0 [.int .i64 src, .int .i64 tr, .int .i64 0, .int .i64 ou, .int .i64 0, .int .i64 ho, .int .i64 0, .int .i64 ba, .int .i64 0, .int .i64 0, .int .i64 0]) := PastN.sets hB (fun k hk => setAll_other hk _ _ _)
      exact hK _ undef (setAll wq g 0 [.int .i64 src, .int .i64 tr, .int .i64 0, .int .i64 ou, .int .i64 0, .int .i64 ho, .int .i64 0, .int .i64 ba, .int .i64 0, .int .i64 0, .int .i64 0]) rfl ⟨h1, h2, (show NewC _ _ _ 2 [u 17, u 16] _ from by rw [H17.out, H16.out]; exact NewC.stored gb hB2), h4⟩ h5 trivial
    exact calmSteps_nil
  · intro u w2 hC hF
    obtain ⟨ht2, hP, hN, hS⟩ := hC
    obtain ⟨g, cs5, g9, gb, g6, hB⟩ := NewC.last (show NewC _ _ _ 2 [u 17, u 16] w2 from hN)
    simp only [calmFacts, Pure, Is, List.map_cons, List.map_nil, and_true, Nat.zero_add, Nat.reduceAdd] at hF
    obtain ⟨-, -, -, -, -, -, -, -, -, -, -, -, -, -, -, -, ⟨src, tr, ou, ho, ba, h16, s0, s1, s2, s3, s4, s5, s6, s7, s8, s9⟩⟩ := hF
    rw [g6] at h16
    obtain rfl : cs5 = _ := by injection h16
    clear h16 hN g6
    simp only [g9]
    clear g9
    have bS := hS; have bX := hB; clear hS hB
    have K2 : GB b w w2 := Past.gb (((GB.refl b w).alloc _).alloc _) hP (by intro k hk; simp at hk; omega)
    have bR : Blk w2 (w.heap.size + 1) 56 #[.int .i64 0, .int .i64 0, .int .i64 0, .int .i64 0, .int .i64 0, .int .i64 0, .int .i64 0, .int .i64 0, .int .i64 0, .int .i64 0, .int .i64 0] := hP.blk (Blk.new1 _ _ _ _) (by simp; omega)
    have Z2 : w.heap.size ≤ w2.heap.size := K2.size
    clear hP HT; have T2 := ht2.lt; have HT := Lib.hid ht2; clear ht2
    obtain ⟨cS, fS, lS, eS, kS⟩ := Blk.facts bS
    obtain ⟨cX, fX, lX, eX, kX⟩ := Blk.facts bX
    obtain ⟨cR, fR, lR, eR, kR⟩ := Blk.facts bR
    have nS : w.heap.size ≠ g := by omega
    have nR : w.heap.size + 1 ≠ g := by omega
    have nb : b ≠ g := by omega
    have ng : w.heap.size ≤ g := by omega
    go_wp2_with fail
    refine wp_region_calm (by kernel_rfl) (fun n us w' => TapeAt w' b ∧ Past [b, g] w2 w' ∧ Blk w' w.heap.size 51 #[.int .i64 sta, .int .i64 loc, .int .i64 p, .int .i64 li, .int .i64 ai, .slice A k cap, .slice SA sl scap] ∧ Blk w' g 56 (stored [.int .i64 src, .int .i64 tr, .int .i64 0, .int .i64 ou, .int .i64 0, .int .i64 ho, .int .i64 0, .int .i64 ba, .int .i64 0, .int .i64 0, .int .i64 0] n us).toArray) (fun _ _ => True) [(Is (.pointer (some ⟨g, 1, none⟩))), (Is (.int .i64 tr)), (Is (.pointer (some ⟨w.heap.size, 2, none⟩))), (Is (.int .i64 p)), (Is (.pointer (some ⟨b, 0, none⟩))), (IntF), (Pure fun _ v => FitF tr p v), (Is (.pointer (some ⟨g, 3, none⟩))), (Is (.int .i64 ou)), (Is (.pointer (some ⟨w.heap.size, 2, none⟩))), (Is (.int .i64 p)), (Is (.pointer (some ⟨b, 0, none⟩))), (IntF), (Pure fun _ v => FitF ou p v), (Is (.pointer (some ⟨g, 5, none⟩))), (Is (.int .i64 ho)), (Is (.pointer (some ⟨w.heap.size, 2, none⟩))), (Is (.int .i64 p)), (Is (.pointer (some ⟨b, 0, none⟩))), (IntF), (Pure fun _ v => FitF ho p v), (Is (.pointer (some ⟨g, 7, none⟩))), (Is (.int .i64 ba)), (Is (.pointer (some ⟨w.heap.size, 2, none⟩))), (Is (.int .i64 p)), (Is (.pointer (some ⟨b, 0, none⟩))), (IntF), (Pure fun _ v => FitF ba p v), (Is (.pointer (some ⟨g, 2, none⟩))), (fun _ _ _ => True), (Is (.pointer (some ⟨g, 4, none⟩))), (fun _ _ _ => True), (Is (.pointer (some ⟨g, 6, none⟩))), (fun _ _ _ => True), (Is (.pointer (some ⟨g, 8, none⟩))), (fun _ _ _ => True)] [[], [0], [], [2], [], [4], [1, 3, 5], [], [7], [], [9], [], [11], [8, 10, 12], [], [14], [], [16], [], [18], [15, 17, 19], [], [21], [], [23], [], [25], [22, 24, 26], [], [28, 6], [], [30, 13], [], [32, 20], [], [34, 27]] [29, 31, 33, 35] [6, 13, 20, 27] rfl (by kernel_rfl) (fun u => by (simp only [calmPut, Act.put, List.setIfInBounds_toArray, List.set_cons_zero, List.set_cons_succ, Nat.zero_add, Nat.reduceAdd]; rfl)) ?_ (calmKeep_cons keep_is' (calmKeep_cons keep_is' (calmKeep_cons keep_is' (calmKeep_cons keep_is' (calmKeep_cons keep_is' (calmKeep_cons keep_pure (calmKeep_cons keep_pure (calmKeep_cons keep_is' (calmKeep_cons keep_is' (calmKeep_cons keep_is' (calmKeep_cons keep_is' (calmKeep_cons keep_is' (calmKeep_cons keep_pure (calmKeep_cons keep_pure (calmKeep_cons keep_is' (calmKeep_cons keep_is' (calmKeep_cons keep_is' (calmKeep_cons keep_is' (calmKeep_cons keep_is' (calmKeep_cons keep_pure (calmKeep_cons keep_pure (calmKeep_cons keep_is' (calmKeep_cons keep_is' (calmKeep_cons keep_is' (calmKeep_cons keep_is' (calmKeep_cons keep_is' (calmKeep_cons keep_pure (calmKeep_cons keep_pure (calmKeep_cons keep_is' (calmKeep_cons keep_triv (calmKeep_cons keep_is' (calmKeep_cons keep_triv (calmKeep_cons keep_is' (calmKeep_cons keep_triv (calmKeep_cons keep_is' (calmKeep_cons keep_triv (calmKeep_nil))))))))))))))))))))))))))))))))))))) ?_ ?_
    · intro _
      exact ⟨HT.out.drew, (Past.refl _ _).drew, bS.drew, bX.drew⟩
    · skip
      refine calmSteps_cons (fun u wq n hn hn2 hC hk K hK => ?_) ?_
      · obtain ⟨hT, hP, hS, hX⟩ := hC
        clear hk
        have HT := Lib.hid hT; have HP := Lib.hid hP; have hsz := hP.1; have cS := hS.cell; have fS := hS.frozen; clear hT hP
        go_simp
        exact hK _ _ _ rfl ⟨HT.out, HP.out, hS, hX⟩ trivial rfl
      refine calmSteps_cons (fun u wq n hn hn2 hC hk K hK => ?_) ?_
      · obtain ⟨hT, hP, hS, hX⟩ := hC
        simp only [calmKnown, List.getElem?_cons_zero, List.getElem?_cons_succ, and_true, Is, Pure, Option.some.injEq, List.getD_cons_zero, List.getD_cons_succ, List.map_cons, List.map_nil] at hk
        have h0 := hk; clear hk
        simp only [h0] at hK ⊢
        have H0 := Lib.hid h0; clear h0
        have HT := Lib.hid hT; have HP := Lib.hid hP; have hsz := hP.1; have cS := hS.cell; have fS := hS.frozen; clear hT hP
        obtain rfl : n = 0 := Nat.le_zero.1 (hn2 0 29 rfl (by kernel_rfl)); have hX0 : Blk wq g 56 [.int .i64 src, .int .i64 tr, .int .i64 0, .int .i64 ou, .int .i64 0, .int .i64 ho, .int .i64 0, .int .i64 ba, .int .i64 0, .int .i64 0, .int .i64 0].toArray := hX; have cX := hX0.cell
        go_simp
        exact hK _ _ _ rfl ⟨HT.out, HP.out, hS, hX⟩ trivial rfl
      refine calmSteps_cons (fun u wq n hn hn2 hC hk K hK => ?_) ?_
      · obtain ⟨hT, hP, hS, hX⟩ := hC
        clear hk
        have HT := Lib.hid hT; have HP := Lib.hid hP; have hsz := hP.1; have cS := hS.cell; have fS := hS.frozen; clear hT hP
        go_simp
        exact hK _ _ _ rfl ⟨HT.out, HP.out, hS, hX⟩ trivial rfl
      refine calmSteps_cons (fun u wq n hn hn2 hC hk K hK => ?_) ?_
      · obtain ⟨hT, hP, hS, hX⟩ := hC
        simp only [calmKnown, List.getElem?_cons_zero, List.getElem?_cons_succ, and_true, Is, Pure, Option.some.injEq, List.getD_cons_zero, List.getD_cons_succ, List.map_cons, List.map_nil] at hk
        have h2 := hk; clear hk
        simp only [h2] at hK ⊢
        have H2 := Lib.hid h2; clear h2
        have HT := Lib.hid hT; have HP := Lib.hid hP; have hsz := hP.1; have cS := hS.cell; have fS := hS.frozen; clear hT hP
        go_simp
        exact hK _ _ _ rfl ⟨HT.out, HP.out, hS, hX⟩ trivial rfl
      refine calmSteps_cons (fun u wq n hn hn2 hC hk K hK => ?_) ?_
      · obtain ⟨hT, hP, hS, hX⟩ := hC
        clear hk
        have HT := Lib.hid hT; have HP := Lib.hid hP; have hsz := hP.1; have cS := hS.cell; have fS := hS.frozen; clear hT hP
        go_simp
        exact hK _ _ _ rfl ⟨HT.out, HP.out, hS, hX⟩ trivial rfl
      refine calmSteps_cons (fun u wq n hn hn2 hC hk K hK => ?_) ?_
      · obtain ⟨hT, hP, hS, hX⟩ := hC
        simp only [calmKnown, List.getElem?_cons_zero, List.getElem?_cons_succ, and_true, Is, Pure, Option.some.injEq, List.getD_cons_zero, List.getD_cons_succ, List.map_cons, List.map_nil] at hk
        have h4 := hk; clear hk
        simp only [h4] at hK ⊢
        have H4 := Lib.hid h4; clear h4
        have HT := Lib.hid hT; have HP := Lib.hid hP; have hsz := hP.1; have cS := hS.cell; have fS := hS.frozen; clear hT hP
        go_wp2_with fail
        refine (next_any b _ HT.out).mono ?_
        rintro e wz ⟨v, rfl, -, ht, hgr⟩
        have hq := Past.grown (X := [b, g]) hgr (by simp)
        exact hK _ _ _ rfl ⟨ht, HP.out.trans hq, Blk.keepG hgr hS (by omega), Blk.keepG hgr hX (by omega)⟩ trivial ⟨v, rfl⟩
      refine calmSteps_cons (fun u wq n hn hn2 hC hk K hK => ?_) ?_
      · obtain ⟨hT, hP, hS, hX⟩ := hC
        simp only [calmKnown, List.getElem?_cons_zero, List.getElem?_cons_succ, and_true, Is, Pure, Option.some.injEq, List.getD_cons_zero, List.getD_cons_succ, List.map_cons, List.map_nil] at hk
        obtain ⟨h1, h3, ⟨x5, h5⟩⟩ := hk
        simp only [h1, h3, h5] at hK ⊢
        have H1 := Lib.hid h1; clear h1; have H3 := Lib.hid h3; clear h3; have H5 := Lib.hid h5; clear h5
        have HT := Lib.hid hT; have HP := Lib.hid hP; have hsz := hP.1; have cS := hS.cell; have fS := hS.frozen; clear hT hP
        obtain rfl : n = 0 := Nat.le_zero.1 (hn2 0 29 rfl (by kernel_rfl)); have hX0 : Blk wq g 56 [.int .i64 src, .int .i64 tr, .int .i64 0, .int .i64 ou, .int .i64 0, .int .i64 ho, .int .i64 0, .int .i64 ba, .int .i64 0, .int .i64 0, .int .i64 0].toArray := hX; have cX := hX0.cell
        go_wp2_with fail
        refine (local_any tr p x5 (by omega) (by omega) p0 p1 _).mono ?_
        rintro e wz ⟨r, rfl, r0, r1, rf, hbl⟩
        have hq := Past.below (X := [b, g]) hbl
        exact hK _ _ _ rfl ⟨HT.out.below hbl, HP.out.trans hq, Blk.keep hbl hS, Blk.keep hbl hX0⟩ trivial ⟨r, rfl, r0, r1, rf⟩
      refine calmSteps_cons (fun u wq n hn hn2 hC hk K hK => ?_) ?_
      · obtain ⟨hT, hP, hS, hX⟩ := hC
        clear hk
        have HT := Lib.hid hT; have HP := Lib.hid hP; have hsz := hP.1; have cS := hS.cell; have fS := hS.frozen; clear hT hP
        go_simp
        exact hK _ _ _ rfl ⟨HT.out, HP.out, hS, hX⟩ trivial rfl
      refine calmSteps_cons (fun u wq n hn hn2 hC hk K hK => ?_) ?_
      · obtain ⟨hT, hP, hS, hX⟩ := hC
        simp only [calmKnown, List.getElem?_cons_zero, List.getElem?_cons_succ, and_true, Is, Pure, Option.some.injEq, List.getD_cons_zero, List.getD_cons_succ, List.map_cons, List.map_nil] at hk
        have h7 := hk; clear hk
        simp only [h7] at hK ⊢
        have H7 := Lib.hid h7; clear h7
        have HT := Lib.hid hT; have HP := Lib.hid hP; have hsz := hP.1; have cS := hS.cell; have fS := hS.frozen; clear hT hP
        obtain rfl : n = 0 := Nat.le_zero.1 (hn2 0 29 rfl (by kernel_rfl)); have hX0 : Blk wq g 56 [.int .i64 src, .int .i64 tr, .int .i64 0, .int .i64 ou, .int .i64 0, .int .i64 ho, .int .i64 0, .int .i64 ba, .int .i64 0, .int .i64 0, .int .i64 0].toArray := hX; have cX := hX0.cell
        go_simp
        exact hK _ _ _ rfl ⟨HT.out, HP.out, hS, hX⟩ trivial rfl
      refine calmSteps_cons (fun u wq n hn hn2 hC hk K hK => ?_) ?_
      · obtain ⟨hT, hP, hS, hX⟩ := hC
        clear hk
        have HT := Lib.hid hT; have HP := Lib.hid hP; have hsz := hP.1; have cS := hS.cell; have fS := hS.frozen; clear hT hP
        go_simp
        exact hK _ _ _ rfl ⟨HT.out, HP.out, hS, hX⟩ trivial rfl
      refine calmSteps_cons (fun u wq n hn hn2 hC hk K hK => ?_) ?_
      · obtain ⟨hT, hP, hS, hX⟩ := hC
        simp only [calmKnown, List.getElem?_cons_zero, List.getElem?_cons_succ, and_true, Is, Pure, Option.some.injEq, List.getD_cons_zero, List.getD_cons_succ, List.map_cons, List.map_nil] at hk
        have h9 := hk; clear hk
        simp only [h9] at hK ⊢
        have H9 := Lib.hid h9; clear h9
        have HT := Lib.hid hT; have HP := Lib.hid hP; have hsz := hP.1; have cS := hS.cell; have fS := hS.frozen; clear hT hP
        go_simp
        exact hK _ _ _ rfl ⟨HT.out, HP.out, hS, hX⟩ trivial rfl
      refine calmSteps_cons (fun u wq n hn hn2 hC hk K hK => ?_) ?_
      · obtain ⟨hT, hP, hS, hX⟩ := hC
        clear hk
        have HT := Lib.hid hT; have HP := Lib.hid hP; have hsz := hP.1; have cS := hS.cell; have fS := hS.frozen; clear hT hP
        go_simp
        exact hK _ _ _ rfl ⟨HT.out, HP.out, hS, hX⟩ trivial rfl
      refine calmSteps_cons (fun u wq n hn hn2 hC hk K hK => ?_) ?_
      · obtain ⟨hT, hP, hS, hX⟩ := hC
        simp only [calmKnown, List.getElem?_cons_zero, List.getElem?_cons_succ, and_true, Is, Pure, Option.some.injEq, List.getD_cons_zero, List.getD_cons_succ, List.map_cons, List.map_nil] at hk
        have h11 := hk; clear hk
        simp only [h11] at hK ⊢
        have H11 := Lib.hid h11; clear h11
        have HT := Lib.hid hT; have HP := Lib.hid hP; have hsz := hP.1; have cS := hS.cell; have fS := hS.frozen; clear hT hP
        go_wp2_with fail
        refine (next_any b _ HT.out).mono ?_
        rintro e wz ⟨v, rfl, -, ht, hgr⟩
        have hq := Past.grown (X := [b, g]) hgr (by simp)
        exact hK _ _ _ rfl ⟨ht, HP.out.trans hq, Blk.keepG hgr hS (by omega), Blk.keepG hgr hX (by omega)⟩ trivial ⟨v, rfl⟩
      refine calmSteps_cons (fun u wq n hn hn2 hC hk K hK => ?_) ?_
      · obtain ⟨hT, hP, hS, hX⟩ := hC
        simp only [calmKnown, List.getElem?_cons_zero, List.getElem?_cons_succ, and_true, Is, Pure, Option.some.injEq, List.getD_cons_zero, List.getD_cons_succ, List.map_cons, List.map_nil] at hk
        obtain ⟨h8, h10, ⟨x12, h12⟩⟩ := hk
        simp only [h8, h10, h12] at hK ⊢
        have H8 := Lib.hid h8; clear h8; have H10 := Lib.hid h10; clear h10; have H12 := Lib.hid h12; clear h12
        have HT := Lib.hid hT; have HP := Lib.hid hP; have hsz := hP.1; have cS := hS.cell; have fS := hS.frozen; clear hT hP
        obtain rfl : n = 0 := Nat.le_zero.1 (hn2 0 29 rfl (by kernel_rfl)); have hX0 : Blk wq g 56 [.int .i64 src, .int .i64 tr, .int .i64 0, .int .i64 ou, .int .i64 0, .int .i64 ho, .int .i64 0, .int .i64 ba, .int .i64 0, .int .i64 0, .int .i64 0].toArray := hX; have cX := hX0.cell
        go_wp2_with fail
        refine (local_any ou p x12 (by omega) (by omega) p0 p1 _).mono ?_
        rintro e wz ⟨r, rfl, r0, r1, rf, hbl⟩
        have hq := Past.below (X := [b, g]) hbl
        exact hK _ _ _ rfl ⟨HT.out.below hbl, HP.out.trans hq, Blk.keep hbl hS, Blk.keep hbl hX0⟩ trivial ⟨r, rfl, r0, r1, rf⟩
      refine calmSteps_cons (fun u wq n hn hn2 hC hk K hK => ?_) ?_
      · obtain ⟨hT, hP, hS, hX⟩ := hC
        clear hk
        have HT := Lib.hid hT; have HP := Lib.hid hP; have hsz := hP.1; have cS := hS.cell; have fS := hS.frozen; clear hT hP
        go_simp
        exact hK _ _ _ rfl ⟨HT.out, HP.out, hS, hX⟩ trivial rfl
      refine calmSteps_cons (fun u wq n hn hn2 hC hk K hK => ?_) ?_
      · obtain ⟨hT, hP, hS, hX⟩ := hC
        simp only [calmKnown, List.getElem?_cons_zero, List.getElem?_cons_succ, and_true, Is, Pure, Option.some.injEq, List.getD_cons_zero, List.getD_cons_succ, List.map_cons, List.map_nil] at hk
        have h14 := hk; clear hk
        simp only [h14] at hK ⊢
        have H14 := Lib.hid h14; clear h14
        have HT := Lib.hid hT; have HP := Lib.hid hP; have hsz := hP.1; have cS := hS.cell; have fS := hS.frozen; clear hT hP
        obtain rfl : n = 0 := Nat.le_zero.1 (hn2 0 29 rfl (by kernel_rfl)); have hX0 : Blk wq g 56 [.int .i64 src, .int .i64 tr, .int .i64 0, .int .i64 ou, .int .i64 0, .int .i64 ho, .int .i64 0, .int .i64 ba, .int .i64 0, .int .i64 0, .int .i64 0].toArray := hX; have cX := hX0.cell
        go_simp
        exact hK _ _ _ rfl ⟨HT.out, HP.out, hS, hX⟩ trivial rfl
      refine calmSteps_cons (fun u wq n hn hn2 hC hk K hK => ?_) ?_
      · obtain ⟨hT, hP, hS, hX⟩ := hC
        clear hk
        have HT := Lib.hid hT; have HP := Lib.hid hP; have hsz := hP.1; have cS := hS.cell; have fS := hS.frozen; clear hT hP
        go_simp
        exact hK _ _ _ rfl ⟨HT.out, HP.out, hS, hX⟩ trivial rfl
      refine calmSteps_cons (fun u wq n hn hn2 hC hk K hK => ?_) ?_
      · obtain ⟨hT, hP, hS, hX⟩ := hC
        simp only [calmKnown, List.getElem?_cons_zero, List.getElem?_cons_succ, and_true, Is, Pure, Option.some.injEq, List.getD_cons_zero, List.getD_cons_succ, List.map_cons, List.map_nil] at hk
        have h16 := hk; clear hk
        simp only [h16] at hK ⊢
        have H16 := Lib.hid h16; clear h16
        have HT := Lib.hid hT; have HP := Lib.hid hP; have hsz := hP.1; have cS := hS.cell; have fS := hS.frozen; clear hT hP
        go_simp
        exact hK _ _ _ rfl ⟨HT.out, HP.out, hS, hX⟩ trivial rfl
      refine calmSteps_cons (fun u wq n hn hn2 hC hk K hK => ?_) ?_
      · obtain ⟨hT, hP, hS, hX⟩ := hC
        clear hk
        have HT := Lib.hid hT; have HP := Lib.hid hP; have hsz := hP.1; have cS := hS.cell; have fS := hS.frozen; clear hT hP
        go_simp
        exact hK _ _ _ rfl ⟨HT.out, HP.out, hS, hX⟩ trivial rfl
      refine calmSteps_cons (fun u wq n hn hn2 hC hk K hK => ?_) ?_
      · obtain ⟨hT, hP, hS, hX⟩ := hC
        simp only [calmKnown, List.getElem?_cons_zero, List.getElem?_cons_succ, and_true, Is, Pure, Option.some.injEq, List.getD_cons_zero, List.getD_cons_succ, List.map_cons, List.map_nil] at hk
        have h18 := hk; clear hk
        simp only [h18] at hK ⊢
        have H18 := Lib.hid h18; clear h18
        have HT := Lib.hid hT; have HP := Lib.hid hP; have hsz := hP.1; have cS := hS.cell; have fS := hS.frozen; clear hT hP
        go_wp2_with fail
        refine (next_any b _ HT.out).mono ?_
        rintro e wz ⟨v, rfl, -, ht, hgr⟩
        have hq := Past.grown (X := [b, g]) hgr (by simp)
        exact hK _ _ _ rfl ⟨ht, HP.out.trans hq, Blk.keepG hgr hS (by omega), Blk.keepG hgr hX (by omega)⟩ trivial ⟨v, rfl⟩
      refine calmSteps_cons (fun u wq n hn hn2 hC hk K hK => ?_) ?_
      · obtain ⟨hT, hP, hS, hX⟩ := hC
        simp only [calmKnown, List.getElem?_cons_zero, List.getElem?_cons_succ, and_true, Is, Pure, Option.some.injEq, List.getD_cons_zero, List.getD_cons_succ, List.map_cons, List.map_nil] at hk
        obtain ⟨h15, h17, ⟨x19, h19⟩⟩ := hk
        simp only [h15, h17, h19] at hK ⊢
        have H15 := Lib.hid h15; clear h15; have H17 := Lib.hid h17; clear h17; have H19 := Lib.hid h19; clear h19
        have HT := Lib.hid hT; have HP := Lib.hid hP; have hsz := hP.1; have cS := hS.cell; have fS := hS.frozen; clear hT hP
        obtain rfl : n = 0 := Nat.le_zero.1 (hn2 0 29 rfl (by kernel_rfl)); have hX0 : Blk wq g 56 [.int .i64 src, .int .i64 tr, .int .i64 0, .int .i64 ou, .int .i64 0, .int .i64 ho, .int .i64 0, .int .i64 ba, .int .i64 0, .int .i64 0, .int .i64 0].toArray := hX; have cX := hX0.cell
        go_wp2_with fail
        refine (local_any ho p x19 (by omega) (by omega) p0 p1 _).mono ?_
        rintro e wz ⟨r, rfl, r0, r1, rf, hbl⟩
        have hq := Past.below (X := [b, g]) hbl
        exact hK _ _ _ rfl ⟨HT.out.below hbl, HP.out.trans hq, Blk.keep hbl hS, Blk.keep hbl hX0⟩ trivial ⟨r, rfl, r0, r1, rf⟩
      refine calmSteps_cons (fun u wq n hn hn2 hC hk K hK => ?_) ?_
      · obtain ⟨hT, hP, hS, hX⟩ := hC
        clear hk
        have HT := Lib.hid hT; have HP := Lib.hid hP; have hsz := hP.1; have cS := hS.cell; have fS := hS.frozen; clear hT hP
        go_simp
        exact hK _ _ _ rfl ⟨HT.out, HP.out, hS, hX⟩ trivial rfl
      refine calmSteps_cons (fun u wq n hn hn2 hC hk K hK => ?_) ?_
      · obtain ⟨hT, hP, hS, hX⟩ := hC
        simp only [calmKnown, List.getElem?_cons_zero, List.getElem?_cons_succ, and_true, Is, Pure, Option.some.injEq, List.getD_cons_zero, List.getD_cons_succ, List.map_cons, List.map_nil] at hk
        have h21 := hk; clear hk
        simp only [h21] at hK ⊢
        have H21 := Lib.hid h21; clear h21
        have HT := Lib.hid hT; have HP := Lib.hid hP; have hsz := hP.1; have cS := hS.cell; have fS := hS.frozen; clear hT hP
        obtain rfl : n = 0 := Nat.le_zero.1 (hn2 0 29 rfl (by kernel_rfl)); have hX0 : Blk wq g 56 [.int .i64 src, .int .i64 tr, .int .i64 0, .int .i64 ou, .int .i64 0, .int .i64 ho, .int .i64 0, .int .i64 ba, .int .i64 0, .int .i64 0, .int .i64 0].toArray := hX; have cX := hX0.cell
        go_simp
        exact hK _ _ _ rfl ⟨HT.out, HP.out, hS, hX⟩ trivial rfl
      refine calmSteps_cons (fun u wq n hn hn2 hC hk K hK => ?_) ?_
      · obtain ⟨hT, hP, hS, hX⟩ := hC
        clear hk
        have HT := Lib.hid hT; have HP := Lib.hid hP; have hsz := hP.1; have cS := hS.cell; have fS := hS.frozen; clear hT hP
        go_simp
        exact hK _ _ _ rfl ⟨HT.out, HP.out, hS, hX⟩ trivial rfl
      refine calmSteps_cons (fun u wq n hn hn2 hC hk K hK => ?_) ?_
      · obtain ⟨hT, hP, hS, hX⟩ := hC
        simp only [calmKnown, List.getElem?_cons_zero, List.getElem?_cons_succ, and_true, Is, Pure, Option.some.injEq, List.getD_cons_zero, List.getD_cons_succ, List.map_cons, List.map_nil] at hk
        have h23 := hk; clear hk
        simp only [h23] at hK ⊢
        have H23 := Lib.hid h23; clear h23
        have HT := Lib.hid hT; have HP := Lib.hid hP; have hsz := hP.1; have cS := hS.cell; have fS := hS.frozen; clear hT hP
        go_simp
        exact hK _ _ _ rfl ⟨HT.out, HP.out, hS, hX⟩ trivial rfl
      refine calmSteps_cons (fun u wq n hn hn2 hC hk K hK => ?_) ?_
      · obtain ⟨hT, hP, hS, hX⟩ := hC
        clear hk
        have HT := Lib.hid hT; have HP := Lib.hid hP; have hsz := hP.1; have cS := hS.cell; have fS := hS.frozen; clear hT hP
        go_simp
        exact hK _ _ _ rfl ⟨HT.out, HP.out, hS, hX⟩ trivial rfl
      refine calmSteps_cons (fun u wq n hn hn2 hC hk K hK => ?_) ?_
      · obtain ⟨hT, hP, hS, hX⟩ := hC
        simp only [calmKnown, List.getElem?_cons_zero, List.getElem?_cons_succ, and_true, Is, Pure, Option.some.injEq, List.getD_cons_zero, List.getD_cons_succ, List.map_cons, List.map_nil] at hk
        have h25 := hk; clear hk
        simp only [h25] at hK ⊢
        have H25 := Lib.hid h25; clear h25
        have HT := Lib.hid hT; have HP := Lib.hid hP; have hsz := hP.1; have cS := hS.cell; have fS := hS.frozen; clear hT hP
        go_wp2_with fail
        refine (next_any b _ HT.out).mono ?_
        rintro e wz ⟨v, rfl, -, ht, hgr⟩
        have hq := Past.grown (X := [b, g]) hgr (by simp)
        exact hK _ _ _ rfl ⟨ht, HP.out.trans hq, Blk.keepG hgr hS (by omega), Blk.keepG hgr hX (by omega)⟩ trivial ⟨v, rfl⟩
      refine calmSteps_cons (fun u wq n hn hn2 hC hk K hK => ?_) ?_
      · obtain ⟨hT, hP, hS, hX⟩ := hC
        simp only [calmKnown, List.getElem?_cons_zero, List.getElem?_cons_succ, and_true, Is, Pure, Option.some.injEq, List.getD_cons_zero, List.getD_cons_succ, List.map_cons, List.map_nil] at hk
        obtain ⟨h22, h24, ⟨x26, h26⟩⟩ := hk
        simp only [h22, h24, h26] at hK ⊢
        have H22 := Lib.hid h22; clear h22; have H24 := Lib.hid h24; clear h24; have H26 := Lib.hid h26; clear h26
        have HT := Lib.hid hT; have HP := Lib.hid hP; have hsz := hP.1; have cS := hS.cell; have fS := hS.frozen; clear hT hP
        obtain rfl : n = 0 := Nat.le_zero.1 (hn2 0 29 rfl (by kernel_rfl)); have hX0 : Blk wq g 56 [.int .i64 src, .int .i64 tr, .int .i64 0, .int .i64 ou, .int .i64 0, .int .i64 ho, .int .i64 0, .int .i64 ba, .int .i64 0, .int .i64 0, .int .i64 0].toArray := hX; have cX := hX0.cell
        go_wp2_with fail
        refine (local_any ba p x26 (by omega) (by omega) p0 p1 _).mono ?_
        rintro e wz ⟨r, rfl, r0, r1, rf, hbl⟩
        have hq := Past.below (X := [b, g]) hbl
        exact hK _ _ _ rfl ⟨HT.out.below hbl, HP.out.trans hq, Blk.keep hbl hS, Blk.keep hbl hX0⟩ trivial ⟨r, rfl, r0, r1, rf⟩
      refine calmSteps_cons (fun u wq n hn hn2 hC hk K hK => ?_) ?_
      · obtain ⟨hT, hP, hS, hX⟩ := hC
        clear hk
        have HT := Lib.hid hT; have HP := Lib.hid hP; have hsz := hP.1; have cS := hS.cell; have fS := hS.frozen; clear hT hP
        go_simp
        exact hK _ _ _ rfl ⟨HT.out, HP.out, hS, hX⟩ trivial rfl
      refine calmSteps_cons (fun u wq n hn hn2 hC hk K hK => ?_) ?_
      · obtain ⟨hT, hP, hS, hX⟩ := hC
        simp only [calmKnown, List.getElem?_cons_zero, List.getElem?_cons_succ, and_true, Is, Pure, Option.some.injEq, List.getD_cons_zero, List.getD_cons_succ, List.map_cons, List.map_nil] at hk
        obtain ⟨h28, ⟨r, h6, r0, r1, rf⟩⟩ := hk
        simp only [h28, h6] at hK ⊢
        have H28 := Lib.hid h28; clear h28; have H6 := Lib.hid h6; clear h6
        obtain rfl := hn 0 rfl
        have HT := Lib.hid hT; have HP := Lib.hid hP; have hsz := hP.1; have cS := hS.cell; have fS := hS.frozen; clear hT hP
        have hX1 : Blk wq g 56 (stored [.int .i64 src, .int .i64 tr, .int .i64 0, .int .i64 ou, .int .i64 0, .int .i64 ho, .int .i64 0, .int .i64 ba, .int .i64 0, .int .i64 0, .int .i64 0] 0 [u 6, u 13, u 20, u 27]).toArray := hX
        clear hX
        simp only [stored, List.getD_cons_zero, List.getD_cons_succ, List.set_cons_zero, List.set_cons_succ] at hX1
        have cX := hX1.cell
        have fX := hX1.frozen
        have hX2 := hX1.set_ 2 (.int .i64 r)
        simp only [List.setIfInBounds_toArray, List.set_cons_zero, List.set_cons_succ] at hX2
        go_simp
        exact hK _ undef _ rfl ⟨HT.out.set (by simp; omega) _, HP.out.trans (Past.set (by simp) _), hS.far (by simp; omega) _, (show Blk _ g 56 (stored [.int .i64 src, .int .i64 tr, .int .i64 0, .int .i64 ou, .int .i64 0, .int .i64 ho, .int .i64 0, .int .i64 ba, .int .i64 0, .int .i64 0, .int .i64 0] 1 [u 6, u 13, u 20, u 27]).toArray from by simp only [stored, List.getD_cons_zero, List.getD_cons_succ, List.set_cons_zero, List.set_cons_succ, H6.out]; exact hX2)⟩ trivial trivial
      refine calmSteps_cons (fun u wq n hn hn2 hC hk K hK => ?_) ?_
      · obtain ⟨hT, hP, hS, hX⟩ := hC
        clear hk
        have HT := Lib.hid hT; have HP := Lib.hid hP; have hsz := hP.1; have cS := hS.cell; have fS := hS.frozen; clear hT hP
        go_simp
        exact hK _ _ _ rfl ⟨HT.out, HP.out, hS, hX⟩ trivial rfl
      refine calmSteps_cons (fun u wq n hn hn2 hC hk K hK => ?_) ?_
      · obtain ⟨hT, hP, hS, hX⟩ := hC
        simp only [calmKnown, List.getElem?_cons_zero, List.getElem?_cons_succ, and_true, Is, Pure, Option.some.injEq, List.getD_cons_zero, List.getD_cons_succ, List.map_cons, List.map_nil] at hk
        obtain ⟨h30, ⟨r, h13, r0, r1, rf⟩⟩ := hk
        simp only [h30, h13] at hK ⊢
        have H30 := Lib.hid h30; clear h30; have H13 := Lib.hid h13; clear h13
        obtain rfl := hn 1 rfl
        have HT := Lib.hid hT; have HP := Lib.hid hP; have hsz := hP.1; have cS := hS.cell; have fS := hS.frozen; clear hT hP
        have hX1 : Blk wq g 56 (stored [.int .i64 src, .int .i64 tr, .int .i64 0, .int .i64 ou, .int .i64 0, .int .i64 ho, .int .i64 0, .int .i64 ba, .int .i64 0, .int .i64 0, .int .i64 0] 1 [u 6, u 13, u 20, u 27]).toArray := hX
        clear hX
        simp only [stored, List.getD_cons_zero, List.getD_cons_succ, List.set_cons_zero, List.set_cons_succ] at hX1
        have cX := hX1.cell
        have fX := hX1.frozen
        have hX2 := hX1.set_ 4 (.int .i64 r)
        simp only [List.setIfInBounds_toArray, List.set_cons_zero, List.set_cons_succ] at hX2
        go_simp
        exact hK _ undef _ rfl ⟨HT.out.set (by simp; omega) _, HP.out.trans (Past.set (by simp) _), hS.far (by simp; omega) _, (show Blk _ g 56 (stored [.int .i64 src, .int .i64 tr, .int .i64 0, .int .i64 ou, .int .i64 0, .int .i64 ho, .int .i64 0, .int .i64 ba, .int .i64 0, .int .i64 0, .int .i64 0] 2 [u 6, u 13, u 20, u 27]).toArray from by simp only [stored, List.getD_cons_zero, List.getD_cons_succ, List.set_cons_zero, List.set_cons_succ, H13.out]; exact hX2)⟩ trivial trivial
      refine calmSteps_cons (fun u wq n hn hn2 hC hk K hK => ?_) ?_
      · obtain ⟨hT, hP, hS, hX⟩ := hC
        clear hk
        have HT := Lib.hid hT; have HP := Lib.hid hP; have hsz := hP.1; have cS := hS.cell; have fS := hS.frozen; clear hT hP
        go_simp
        exact hK _ _ _ rfl ⟨HT.out, HP.out, hS, hX⟩ trivial rfl
      refine calmSteps_cons (fun u wq n hn hn2 hC hk K hK => ?_) ?_
      · obtain ⟨hT, hP, hS, hX⟩ := hC
        simp only [calmKnown, List.getElem?_cons_zero, List.getElem?_cons_succ, and_true, Is, Pure, Option.some.injEq, List.getD_cons_zero, List.getD_cons_succ, List.map_cons, List.map_nil] at hk
        obtain ⟨h32, ⟨r, h20, r0, r1, rf⟩⟩ := hk
        simp only [h32, h20] at hK ⊢
        have H32 := Lib.hid h32; clear h32; have H20 := Lib.hid h20; clear h20
        obtain rfl := hn 2 rfl
        have HT := Lib.hid hT; have HP := Lib.hid hP; have hsz := hP.1; have cS := hS.cell; have fS := hS.frozen; clear hT hP
        have hX1 : Blk wq g 56 (stored [.int .i64 src, .int .i64 tr, .int .i64 0, .int .i64 ou, .int .i64 0, .int .i64 ho, .int .i64 0, .int .i64 ba, .int .i64 0, .int .i64 0, .int .i64 0] 2 [u 6, u 13, u 20, u 27]).toArray := hX
        clear hX
        simp only [stored, List.getD_cons_zero, List.getD_cons_succ, List.set_cons_zero, List.set_cons_succ] at hX1
        have cX := hX1.cell
        have fX := hX1.frozen
        have hX2 := hX1.set_ 6 (.int .i64 r)
        simp only [List.setIfInBounds_toArray, List.set_cons_zero, List.set_cons_succ] at hX2
        go_simp
        exact hK _ undef _ rfl ⟨HT.out.set (by simp; omega) _, HP.out.trans (Past.set (by simp) _), hS.far (by simp; omega) _, (show Blk _ g 56 (stored [.int .i64 src, .int .i64 tr, .int .i64 0, .int .i64 ou, .int .i64 0, .int .i64 ho, .int .i64 0, .int .i64 ba, .int .i64 0, .int .i64 0, .int .i64 0] 3 [u 6, u 13, u 20, u 27]).toArray from by simp only [stored, List.getD_cons_zero, List.getD_cons_succ, List.set_cons_zero, List.set_cons_succ, H20.out]; exact hX2)⟩ trivial trivial
      refine calmSteps_cons (fun u wq n hn hn2 hC hk K hK => ?_) ?_
      · obtain ⟨hT, hP, hS, hX⟩ := hC
        clear hk
        have HT := Lib.hid hT; have HP := Lib.hid hP; have hsz := hP.1; have cS := hS.cell; have fS := hS.frozen; clear hT hP
        go_simp
        exact hK _ _ _ rfl ⟨HT.out, HP.out, hS, hX⟩ trivial rfl
      refine calmSteps_cons (fun u wq n hn hn2 hC hk K hK => ?_) ?_
      · obtain ⟨hT, hP, hS, hX⟩ := hC
        simp only [calmKnown, List.getElem?_cons_zero, List.getElem?_cons_succ, and_true, Is, Pure, Option.some.injEq, List.getD_cons_zero, List.getD_cons_succ, List.map_cons, List.map_nil] at hk
        obtain ⟨h34, ⟨r, h27, r0, r1, rf⟩⟩ := hk
        simp only [h34, h27] at hK ⊢
        have H34 := Lib.hid h34; clear h34; have H27 := Lib.hid h27; clear h27
        obtain rfl := hn 3 rfl
        have HT := Lib.hid hT; have HP := Lib.hid hP; have hsz := hP.1; have cS := hS.cell; have fS := hS.frozen; clear hT hP
        have hX1 : Blk wq g 56 (stored [.int .i64 src, .int .i64 tr, .int .i64 0, .int .i64 ou, .int .i64 0, .int .i64 ho, .int .i64 0, .int .i64 ba, .int .i64 0, .int .i64 0, .int .i64 0] 3 [u 6, u 13, u 20, u 27]).toArray := hX
        clear hX
        simp only [stored, List.getD_cons_zero, List.getD_cons_succ, List.set_cons_zero, List.set_cons_succ] at hX1
        have cX := hX1.cell
        have fX := hX1.frozen
        have hX2 := hX1.set_ 8 (.int .i64 r)
        simp only [List.setIfInBounds_toArray, List.set_cons_zero, List.set_cons_succ] at hX2
        go_simp
        exact hK _ undef _ rfl ⟨HT.out.set (by simp; omega) _, HP.out.trans (Past.set (by simp) _), hS.far (by simp; omega) _, (show Blk _ g 56 (stored [.int .i64 src, .int .i64 tr, .int .i64 0, .int .i64 ou, .int .i64 0, .int .i64 ho, .int .i64 0, .int .i64 ba, .int .i64 0, .int .i64 0, .int .i64 0] 4 [u 6, u 13, u 20, u 27]).toArray from by simp only [stored, List.getD_cons_zero, List.getD_cons_succ, List.set_cons_zero, List.set_cons_succ, H27.out]; exact hX2)⟩ trivial trivial
      exact calmSteps_nil
    · intro u w3 hC hF
      obtain ⟨ht3, hP, hS, hX⟩ := hC
      replace hX : Blk w3 g 56 (stored [.int .i64 src, .int .i64 tr, .int .i64 0, .int .i64 ou, .int .i64 0, .int .i64 ho, .int .i64 0, .int .i64 ba, .int .i64 0, .int .i64 0, .int .i64 0] 4 [u 6, u 13, u 20, u 27]).toArray := hX
      simp only [calmFacts, Pure, Is, List.map_cons, List.map_nil, and_true, Nat.zero_add, Nat.reduceAdd] at hF
      obtain ⟨-, -, -, -, -, -, ⟨r6, h6, a60, a61, a62⟩, -, -, -, -, -, -, ⟨r13, h13, a130, a131, a132⟩, -, -, -, -, -, -, ⟨r20, h20, a200, a201, a202⟩, -, -, -, -, -, -, ⟨r27, h27, a270, a271, a272⟩, -, -, -, -, -, -, -⟩ := hF
      simp only [stored, List.getD_cons_zero, List.getD_cons_succ, List.set_cons_zero, List.set_cons_succ, h6, h13, h20, h27] at hX
      have K3 : GB b w w3 := Past.gb K2 hP (by intro k hk; simp at hk; omega)
      have Z3 : w.heap.size ≤ w3.heap.size := K3.size
      have bR' : Blk w3 (w.heap.size + 1) 56 #[.int .i64 0, .int .i64 0, .int .i64 0, .int .i64 0, .int .i64 0, .int .i64 0, .int .i64 0, .int .i64 0, .int .i64 0, .int .i64 0, .int .i64 0] := hP.blk bR (by simp; omega)
      clear bS cS fS lS eS kS bX cX fX lX eX kX bR cR fR lR eR kR; have bS := hS; have bX := hX; have bR := bR'; clear hS hX bR'
      clear hP HT K2; have T3 := ht3.lt; have HT := Lib.hid ht3; clear ht3 h6 h13 h20 h27
      obtain ⟨cS, fS, lS, eS, kS⟩ := Blk.facts bS
      obtain ⟨cX, fX, lX, eX, kX⟩ := Blk.facts bX
      obtain ⟨cR, fR, lR, eR, kR⟩ := Blk.facts bR
      obtain ⟨sn, rfl⟩ : ∃ sn : Nat, src = sn := ⟨src.toNat, by omega⟩
      have hsk : sn < k := by omega
      have hes2 := es_in HE.out.1 HES.out s0 s1
      simp only [Int.toNat_natCast] at hes2
      obtain ⟨hel, ge, cur, rfl, hge, hBe, hce⟩ := HE.out.gb K3
      replace hce := (hBe.cell sn).trans (hce sn hsk)
      have hgl := hBe.lt
      clear hBe
      obtain ⟨er0, er1⟩ := hes2
      obtain ⟨er, her⟩ : ∃ er, er = es.getD sn 0 := ⟨_, rfl⟩
      rw [← her] at hce er0 er1
      have HER := Lib.hid her.symm; clear her
      have HFF := Lib.hid (And.intro a62 (And.intro a132 (And.intro a202 a272))); clear a62 a132 a202 a272
      have wn : IntKind.i64.wrap (-er) = -er := IntWalk.i64_in _ (by omega)
      go_wp2_with fail
      refine (range_any _ _ _ _ (by (repeat' (first | (with_reducible exact HT.out) | (with_reducible refine' TapeAt.alloc ?_ _) | (with_reducible refine' TapeAt.drew ?_) | (with_reducible refine' TapeAt.drewN ?_ _) | (with_reducible refine' TapeAt.set ?_ ?_ _))) <;> (first | omega | (simp <;> omega))) (by omega) (by omega) (by omega)).mono ?_
      rintro e w4 ⟨v, rfl, v0, v1, ht4, hg4⟩
      have K4 : GB b w w4 := GB.tap hg4 (by (try show GB b w _); (repeat' (first | (with_reducible exact K3) | (with_reducible refine GB.setCell ?_ ?_ _) | (with_reducible refine GB.alloc ?_ _) | (with_reducible refine GB.drew ?_) | (with_reducible refine GB.drewN ?_ _))) <;> (first | omega | (simp <;> omega)))
      have Z4 : w.heap.size ≤ w4.heap.size := K4.size
      have bS' := Blk.keepG (g := w.heap.size) hg4 (by (repeat' (first | (with_reducible refine' Blk.alloc ?_ _) | (with_reducible refine' Blk.drew ?_) | (with_reducible refine' Blk.drewN ?_ _) | (with_reducible refine' Blk.put ?_ ?_) | (with_reducible refine' Blk.far ?_ ?_ _) | exact bS | exact rfl)) <;> (first | omega | (simp <;> omega))) (by first | omega | (simp <;> omega))
      (try simp only [List.setIfInBounds_toArray, List.set_cons_zero, List.set_cons_succ] at bS')
      have bX' := Blk.keepG (g := g) hg4 (by (repeat' (first | (with_reducible refine' Blk.alloc ?_ _) | (with_reducible refine' Blk.drew ?_) | (with_reducible refine' Blk.drewN ?_ _) | (with_reducible refine' Blk.put ?_ ?_) | (with_reducible refine' Blk.far ?_ ?_ _) | exact bX | exact rfl)) <;> (first | omega | (simp <;> omega))) (by first | omega | (simp <;> omega))
      (try simp only [List.setIfInBounds_toArray, List.set_cons_zero, List.set_cons_succ] at bX')
      have bR' := Blk.keepG (g := w.heap.size + 1) hg4 (by (repeat' (first | (with_reducible refine' Blk.alloc ?_ _) | (with_reducible refine' Blk.drew ?_) | (with_reducible refine' Blk.drewN ?_ _) | (with_reducible refine' Blk.put ?_ ?_) | (with_reducible refine' Blk.far ?_ ?_ _) | exact bR | exact rfl)) <;> (first | omega | (simp <;> omega))) (by first | omega | (simp <;> omega))
      (try simp only [List.setIfInBounds_toArray, List.set_cons_zero, List.set_cons_succ] at bR')
      clear HT; have T4 := ht4.lt; have HT := Lib.hid ht4; clear ht4
      clear hg4 K3
      clear bS cS fS lS eS kS; have bS := bS'; clear bS'
      clear bX cX fX lX eX kX; have bX := bX'; clear bX'
      clear bR cR fR lR eR kR; have bR := bR'; clear bR'
      obtain ⟨cS, fS, lS, eS, kS⟩ := Blk.facts bS
      obtain ⟨cX, fX, lX, eX, kX⟩ := Blk.facts bX
      obtain ⟨cR, fR, lR, eR, kR⟩ := Blk.facts bR
      go_wp2_with fail
      refine (range_any _ _ _ _ (by (repeat' (first | (with_reducible exact HT.out) | (with_reducible refine' TapeAt.alloc ?_ _) | (with_reducible refine' TapeAt.drew ?_) | (with_reducible refine' TapeAt.drewN ?_ _) | (with_reducible refine' TapeAt.set ?_ ?_ _))) <;> (first | omega | (simp <;> omega))) (by omega) (by omega) (by omega)).mono ?_
      rintro e w5 ⟨y, rfl, y0, y1, ht5, hg5⟩
      have K5 : GB b w w5 := GB.tap hg5 (by (try show GB b w _); (repeat' (first | (with_reducible exact K4) | (with_reducible refine GB.setCell ?_ ?_ _) | (with_reducible refine GB.alloc ?_ _) | (with_reducible refine GB.drew ?_) | (with_reducible refine GB.drewN ?_ _))) <;> (first | omega | (simp <;> omega)))
      have Z5 : w.heap.size ≤ w5.heap.size := K5.size
      have bS' := Blk.keepG (g := w.heap.size) hg5 (by (repeat' (first | (with_reducible refine' Blk.alloc ?_ _) | (with_reducible refine' Blk.drew ?_) | (with_reducible refine' Blk.drewN ?_ _) | (with_reducible refine' Blk.put ?_ ?_) | (with_reducible refine' Blk.far ?_ ?_ _) | exact bS | exact rfl)) <;> (first | omega | (simp <;> omega))) (by first | omega | (simp <;> omega))
      (try simp only [List.setIfInBounds_toArray, List.set_cons_zero, List.set_cons_succ] at bS')
      have bX' := Blk.keepG (g := g) hg5 (by (repeat' (first | (with_reducible refine' Blk.alloc ?_ _) | (with_reducible refine' Blk.drew ?_) | (with_reducible refine' Blk.drewN ?_ _) | (with_reducible refine' Blk.put ?_ ?_) | (with_reducible refine' Blk.far ?_ ?_ _) | exact bX | exact rfl)) <;> (first | omega | (simp <;> omega))) (by first | omega | (simp <;> omega))
      (try simp only [List.setIfInBounds_toArray, List.set_cons_zero, List.set_cons_succ] at bX')
      have bR' := Blk.keepG (g := w.heap.size + 1) hg5 (by (repeat' (first | (with_reducible refine' Blk.alloc ?_ _) | (with_reducible refine' Blk.drew ?_) | (with_reducible refine' Blk.drewN ?_ _) | (with_reducible refine' Blk.put ?_ ?_) | (with_reducible refine' Blk.far ?_ ?_ _) | exact bR | exact rfl)) <;> (first | omega | (simp <;> omega))) (by first | omega | (simp <;> omega))
      (try simp only [List.setIfInBounds_toArray, List.set_cons_zero, List.set_cons_succ] at bR')
      clear HT; have T5 := ht5.lt; have HT := Lib.hid ht5; clear ht5
      clear hg5 K4
      clear bS cS fS lS eS kS; have bS := bS'; clear bS'
      clear bX cX fX lX eX kX; have bX := bX'; clear bX'
      clear bR cR fR lR eR kR; have bR := bR'; clear bR'
      obtain ⟨cS, fS, lS, eS, kS⟩ := Blk.facts bS
      obtain ⟨cX, fX, lX, eX, kX⟩ := Blk.facts bX
      obtain ⟨cR, fR, lR, eR, kR⟩ := Blk.facts bR
      clear hce wn
      cases lying with
      | false =>
        go_wp2
        refine bodyPost_ret (v := .agg #[.int .i64 sn, .int .i64 tr, .int .i64 r6, .int .i64 ou, .int .i64 r13, .int .i64 ho, .int .i64 r20, .int .i64 ba, .int .i64 r27, .int .i64 v, .int .i64 y]) (by simp [results, Tryz.results43, go_sem, *]) rfl ⟨⟨sn, tr, r6, ou, r13, ho, r20, ba, r27, v, y⟩, rfl, ?_, (by (repeat' (first | (with_reducible exact HT.out) | (with_reducible refine' TapeAt.alloc ?_ _) | (with_reducible refine' TapeAt.drew ?_) | (with_reducible refine' TapeAt.drewN ?_ _) | (with_reducible refine' TapeAt.set ?_ ?_ _))) <;> (first | omega | (simp <;> omega))), by (try show GB b w _); (repeat' (first | (with_reducible exact K5) | (with_reducible refine GB.setCell ?_ ?_ _) | (with_reducible refine GB.alloc ?_ _) | (with_reducible refine GB.drew ?_) | (with_reducible refine GB.drewN ?_ _))) <;> (first | omega | (simp <;> omega))⟩
        exact ⟨by simp, by simp; omega, s2, s3, a60, a61, HFF.out.1, s4, s5, a130, a131, HFF.out.2.1, s6, s7, a200, a201, HFF.out.2.2.1, s8, s9, a270, a271, HFF.out.2.2.2, by simp; omega, by simp; omega, by simp; omega, by simp; omega, fun _ => by simp only [Int.toNat_natCast, HER.out]; omega⟩
      | true =>
        by_cases hli : (sn : Int) < li
        · skip
          go_wp2_with fail
          refine (range_any _ _ _ _ (by (repeat' (first | (with_reducible exact HT.out) | (with_reducible refine' TapeAt.alloc ?_ _) | (with_reducible refine' TapeAt.drew ?_) | (with_reducible refine' TapeAt.drewN ?_ _) | (with_reducible refine' TapeAt.set ?_ ?_ _))) <;> (first | omega | (simp <;> omega))) (by omega) (by omega) (by omega)).mono ?_
          rintro e w6 ⟨v2, rfl, v20, v21, ht6, hg6⟩
          have K6 : GB b w w6 := GB.tap hg6 (by (try show GB b w _); (repeat' (first | (with_reducible exact K5) | (with_reducible refine GB.setCell ?_ ?_ _) | (with_reducible refine GB.alloc ?_ _) | (with_reducible refine GB.drew ?_) | (with_reducible refine GB.drewN ?_ _))) <;> (first | omega | (simp <;> omega)))
          have Z6 : w.heap.size ≤ w6.heap.size := K6.size
          have bS' := Blk.keepG (g := w.heap.size) hg6 (by (repeat' (first | (with_reducible refine' Blk.alloc ?_ _) | (with_reducible refine' Blk.drew ?_) | (with_reducible refine' Blk.drewN ?_ _) | (with_reducible refine' Blk.put ?_ ?_) | (with_reducible refine' Blk.far ?_ ?_ _) | exact bS | exact rfl)) <;> (first | omega | (simp <;> omega))) (by first | omega | (simp <;> omega))
          (try simp only [List.setIfInBounds_toArray, List.set_cons_zero, List.set_cons_succ] at bS')
          have bX' := Blk.keepG (g := g) hg6 (by (repeat' (first | (with_reducible refine' Blk.alloc ?_ _) | (with_reducible refine' Blk.drew ?_) | (with_reducible refine' Blk.drewN ?_ _) | (with_reducible refine' Blk.put ?_ ?_) | (with_reducible refine' Blk.far ?_ ?_ _) | exact bX | exact rfl)) <;> (first | omega | (simp <;> omega))) (by first | omega | (simp <;> omega))
          (try simp only [List.setIfInBounds_toArray, List.set_cons_zero, List.set_cons_succ] at bX')
          have bR' := Blk.keepG (g := w.heap.size + 1) hg6 (by (repeat' (first | (with_reducible refine' Blk.alloc ?_ _) | (with_reducible refine' Blk.drew ?_) | (with_reducible refine' Blk.drewN ?_ _) | (with_reducible refine' Blk.put ?_ ?_) | (with_reducible refine' Blk.far ?_ ?_ _) | exact bR | exact rfl)) <;> (first | omega | (simp <;> omega))) (by first | omega | (simp <;> omega))
          (try simp only [List.setIfInBounds_toArray, List.set_cons_zero, List.set_cons_succ] at bR')
          clear HT; have T6 := ht6.lt; have HT := Lib.hid ht6; clear ht6
          clear hg6 K5
          clear bS cS fS lS eS kS; have bS := bS'; clear bS'
          clear bX cX fX lX eX kX; have bX := bX'; clear bX'
          clear bR cR fR lR eR kR; have bR := bR'; clear bR'
          obtain ⟨cS, fS, lS, eS, kS⟩ := Blk.facts bS
          obtain ⟨cX, fX, lX, eX, kX⟩ := Blk.facts bX
          obtain ⟨cR, fR, lR, eR, kR⟩ := Blk.facts bR
          go_wp2_with fail
          refine (range_any _ _ _ _ (by (repeat' (first | (with_reducible exact HT.out) | (with_reducible refine' TapeAt.alloc ?_ _) | (with_reducible refine' TapeAt.drew ?_) | (with_reducible refine' TapeAt.drewN ?_ _) | (with_reducible refine' TapeAt.set ?_ ?_ _))) <;> (first | omega | (simp <;> omega))) (by omega) (by omega) (by omega)).mono ?_
          rintro e w7 ⟨y2, rfl, y20, y21, ht7, hg7⟩
          have K7 : GB b w w7 := GB.tap hg7 (by (try show GB b w _); (repeat' (first | (with_reducible exact K6) | (with_reducible refine GB.setCell ?_ ?_ _) | (with_reducible refine GB.alloc ?_ _) | (with_reducible refine GB.drew ?_) | (with_reducible refine GB.drewN ?_ _))) <;> (first | omega | (simp <;> omega)))
          have Z7 : w.heap.size ≤ w7.heap.size := K7.size
          have bS' := Blk.keepG (g := w.heap.size) hg7 (by (repeat' (first | (with_reducible refine' Blk.alloc ?_ _) | (with_reducible refine' Blk.drew ?_) | (with_reducible refine' Blk.drewN ?_ _) | (with_reducible refine' Blk.put ?_ ?_) | (with_reducible refine' Blk.far ?_ ?_ _) | exact bS | exact rfl)) <;> (first | omega | (simp <;> omega))) (by first | omega | (simp <;> omega))
          (try simp only [List.setIfInBounds_toArray, List.set_cons_zero, List.set_cons_succ] at bS')
          have bX' := Blk.keepG (g := g) hg7 (by (repeat' (first | (with_reducible refine' Blk.alloc ?_ _) | (with_reducible refine' Blk.drew ?_) | (with_reducible refine' Blk.drewN ?_ _) | (with_reducible refine' Blk.put ?_ ?_) | (with_reducible refine' Blk.far ?_ ?_ _) | exact bX | exact rfl)) <;> (first | omega | (simp <;> omega))) (by first | omega | (simp <;> omega))
          (try simp only [List.setIfInBounds_toArray, List.set_cons_zero, List.set_cons_succ] at bX')
          have bR' := Blk.keepG (g := w.heap.size + 1) hg7 (by (repeat' (first | (with_reducible refine' Blk.alloc ?_ _) | (with_reducible refine' Blk.drew ?_) | (with_reducible refine' Blk.drewN ?_ _) | (with_reducible refine' Blk.put ?_ ?_) | (with_reducible refine' Blk.far ?_ ?_ _) | exact bR | exact rfl)) <;> (first | omega | (simp <;> omega))) (by first | omega | (simp <;> omega))
          (try simp only [List.setIfInBounds_toArray, List.set_cons_zero, List.set_cons_succ] at bR')
          clear HT; have T7 := ht7.lt; have HT := Lib.hid ht7; clear ht7
          clear hg7 K6
          clear bS cS fS lS eS kS; have bS := bS'; clear bS'
          clear bX cX fX lX eX kX; have bX := bX'; clear bX'
          clear bR cR fR lR eR kR; have bR := bR'; clear bR'
          obtain ⟨cS, fS, lS, eS, kS⟩ := Blk.facts bS
          obtain ⟨cX, fX, lX, eX, kX⟩ := Blk.facts bX
          obtain ⟨cR, fR, lR, eR, kR⟩ := Blk.facts bR
          go_wp2_with fail
          refine (tbool_any _ _ _ (by (repeat' (first | (with_reducible exact HT.out) | (with_reducible refine' TapeAt.alloc ?_ _) | (with_reducible refine' TapeAt.drew ?_) | (with_reducible refine' TapeAt.drewN ?_ _) | (with_reducible refine' TapeAt.set ?_ ?_ _))) <;> (first | omega | (simp <;> omega))) (by omega) (by omega)).mono ?_
          rintro e w8 ⟨bb, rfl, ht8, hg8⟩
          have K8 : GB b w w8 := GB.tap hg8 (by (try show GB b w _); (repeat' (first | (with_reducible exact K7) | (with_reducible refine GB.setCell ?_ ?_ _) | (with_reducible refine GB.alloc ?_ _) | (with_reducible refine GB.drew ?_) | (with_reducible refine GB.drewN ?_ _))) <;> (first | omega | (simp <;> omega)))
          have Z8 : w.heap.size ≤ w8.heap.size := K8.size
          have bS' := Blk.keepG (g := w.heap.size) hg8 (by (repeat' (first | (with_reducible refine' Blk.alloc ?_ _) | (with_reducible refine' Blk.drew ?_) | (with_reducible refine' Blk.drewN ?_ _) | (with_reducible refine' Blk.put ?_ ?_) | (with_reducible refine' Blk.far ?_ ?_ _) | exact bS | exact rfl)) <;> (first | omega | (simp <;> omega))) (by first | omega | (simp <;> omega))
          (try simp only [List.setIfInBounds_toArray, List.set_cons_zero, List.set_cons_succ] at bS')
          have bX' := Blk.keepG (g := g) hg8 (by (repeat' (first | (with_reducible refine' Blk.alloc ?_ _) | (with_reducible refine' Blk.drew ?_) | (with_reducible refine' Blk.drewN ?_ _) | (with_reducible refine' Blk.put ?_ ?_) | (with_reducible refine' Blk.far ?_ ?_ _) | exact bX | exact rfl)) <;> (first | omega | (simp <;> omega))) (by first | omega | (simp <;> omega))
          (try simp only [List.setIfInBounds_toArray, List.set_cons_zero, List.set_cons_succ] at bX')
          have bR' := Blk.keepG (g := w.heap.size + 1) hg8 (by (repeat' (first | (with_reducible refine' Blk.alloc ?_ _) | (with_reducible refine' Blk.drew ?_) | (with_reducible refine' Blk.drewN ?_ _) | (with_reducible refine' Blk.put ?_ ?_) | (with_reducible refine' Blk.far ?_ ?_ _) | exact bR | exact rfl)) <;> (first | omega | (simp <;> omega))) (by first | omega | (simp <;> omega))
          (try simp only [List.setIfInBounds_toArray, List.set_cons_zero, List.set_cons_succ] at bR')
          clear HT; have T8 := ht8.lt; have HT := Lib.hid ht8; clear ht8
          clear hg8 K7
          clear bS cS fS lS eS kS; have bS := bS'; clear bS'
          clear bX cX fX lX eX kX; have bX := bX'; clear bX'
          clear bR cR fR lR eR kR; have bR := bR'; clear bR'
          obtain ⟨cS, fS, lS, eS, kS⟩ := Blk.facts bS
          obtain ⟨cX, fX, lX, eX, kX⟩ := Blk.facts bX
          obtain ⟨cR, fR, lR, eR, kR⟩ := Blk.facts bR
          cases bb with
          | false =>
            go_wp2
            refine bodyPost_ret (v := .agg #[.int .i64 sn, .int .i64 tr, .int .i64 r6, .int .i64 ou, .int .i64 r13, .int .i64 ho, .int .i64 r20, .int .i64 ba, .int .i64 r27, .int .i64 v2, .int .i64 y2]) (by simp [results, Tryz.results43, go_sem, *]) rfl ⟨⟨sn, tr, r6, ou, r13, ho, r20, ba, r27, v2, y2⟩, rfl, ?_, (by (repeat' (first | (with_reducible exact HT.out) | (with_reducible refine' TapeAt.alloc ?_ _) | (with_reducible refine' TapeAt.drew ?_) | (with_reducible refine' TapeAt.drewN ?_ _) | (with_reducible refine' TapeAt.set ?_ ?_ _))) <;> (first | omega | (simp <;> omega))), by (try show GB b w _); (repeat' (first | (with_reducible exact K8) | (with_reducible refine GB.setCell ?_ ?_ _) | (with_reducible refine GB.alloc ?_ _) | (with_reducible refine GB.drew ?_) | (with_reducible refine GB.drewN ?_ _))) <;> (first | omega | (simp <;> omega))⟩
            exact ⟨by simp, by simp; omega, s2, s3, a60, a61, HFF.out.1, s4, s5, a130, a131, HFF.out.2.1, s6, s7, a200, a201, HFF.out.2.2.1, s8, s9, a270, a271, HFF.out.2.2.2, by simp; omega, by simp; omega, by simp; omega, by simp; omega, fun q => absurd q (by simp; omega)⟩
          | true =>
            go_wp2
            refine bodyPost_ret (v := .agg #[.int .i64 sn, .int .i64 tr, .int .i64 r6, .int .i64 ou, .int .i64 r13, .int .i64 ho, .int .i64 r20, .int .i64 ba, .int .i64 r27, .int .i64 v2, .int .i64 v2]) (by simp [results, Tryz.results43, go_sem, *]) rfl ⟨⟨sn, tr, r6, ou, r13, ho, r20, ba, r27, v2, v2⟩, rfl, ?_, (by (repeat' (first | (with_reducible exact HT.out) | (with_reducible refine' TapeAt.alloc ?_ _) | (with_reducible refine' TapeAt.drew ?_) | (with_reducible refine' TapeAt.drewN ?_ _) | (with_reducible refine' TapeAt.set ?_ ?_ _))) <;> (first | omega | (simp <;> omega))), by (try show GB b w _); (repeat' (first | (with_reducible exact K8) | (with_reducible refine GB.setCell ?_ ?_ _) | (with_reducible refine GB.alloc ?_ _) | (with_reducible refine GB.drew ?_) | (with_reducible refine GB.drewN ?_ _))) <;> (first | omega | (simp <;> omega))⟩
            exact ⟨by simp, by simp; omega, s2, s3, a60, a61, HFF.out.1, s4, s5, a130, a131, HFF.out.2.1, s6, s7, a200, a201, HFF.out.2.2.1, s8, s9, a270, a271, HFF.out.2.2.2, by simp; omega, by simp; omega, by simp; omega, by simp; omega, fun q => absurd q (by simp; omega)⟩
        · have gl : decide ((sn : Int) < li) = false := decide_eq_false hli
          go_wp2
          refine bodyPost_ret (v := .agg #[.int .i64 sn, .int .i64 tr, .int .i64 r6, .int .i64 ou, .int .i64 r13, .int .i64 ho, .int .i64 r20, .int .i64 ba, .int .i64 r27, .int .i64 v, .int .i64 y]) (by simp [results, Tryz.results43, go_sem, *]) rfl ⟨⟨sn, tr, r6, ou, r13, ho, r20, ba, r27, v, y⟩, rfl, ?_, (by (repeat' (first | (with_reducible exact HT.out) | (with_reducible refine' TapeAt.alloc ?_ _) | (with_reducible refine' TapeAt.drew ?_) | (with_reducible refine' TapeAt.drewN ?_ _) | (with_reducible refine' TapeAt.set ?_ ?_ _))) <;> (first | omega | (simp <;> omega))), by (try show GB b w _); (repeat' (first | (with_reducible exact K5) | (with_reducible refine GB.setCell ?_ ?_ _) | (with_reducible refine GB.alloc ?_ _) | (with_reducible refine GB.drew ?_) | (with_reducible refine GB.drewN ?_ _))) <;> (first | omega | (simp <;> omega))⟩
          exact ⟨by simp, by simp; omega, s2, s3, a60, a61, HFF.out.1, s4, s5, a130, a131, HFF.out.2.1, s6, s7, a200, a201, HFF.out.2.2.1, s8, s9, a270, a271, HFF.out.2.2.2, by simp; omega, by simp; omega, by simp; omega, by simp; omega, fun _ => by simp only [Int.toNat_natCast, HER.out]; omega⟩
end Go.Proofs.YtiinmhfolfgobaaGreatDoor
