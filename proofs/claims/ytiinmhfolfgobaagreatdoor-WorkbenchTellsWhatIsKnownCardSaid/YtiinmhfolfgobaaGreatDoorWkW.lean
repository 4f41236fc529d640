/- The walk of the law WorkbenchTellsWhatIsKnown. -/
import Derived.Deep.DeepCutAuto
import Derived.Deep.DrawnRows
import Derived.Test.YtiinmhfolfgobaaGreatDoorJ42
import Derived.Test.YtiinmhfolfgobaaGreatDoorJ8
import Derived.Test.YtiinmhfolfgobaaGreatDoorJ9
import Derived.Test.YtiinmhfolfgobaaGreatDoorR23
import Derived.Test.YtiinmhfolfgobaaGreatDoorR37
import Derived.Test.YtiinmhfolfgobaaGreatDoorTape
import Derived.Test.YtiinmhfolfgobaaGreatDoorJ48
namespace Go.Proofs.YtiinmhfolfgobaaGreatDoor
open Go.RowKit Go.Lib
set_option linter.unusedSimpArgs false
set_option linter.unusedVariables false

/-- The sample, of which n of the two last numbers are stored. -/
def smS2 : Nat → List Value → Value
  | 0, _ => .int .i64 0
  | _ + 1, us => us.getD 0 undef
def smS3 : Nat → List Value → Value
  | 0, _ => .int .i64 0
  | 1, _ => .int .i64 0
  | _ + 2, us => us.getD 1 undef
def smS (t1 t2 er : Int) (n : Nat) (us : List Value) : Array Value := #[.int .i64 t1, .int .i64 t2, smS2 n us, smS3 n us, .int .i64 er]
theorem l43lineG (ws : Array UInt8) (word : List UInt8) (hw : ws = word.toArray) (ns : List Int) (k : Nat) (hk : ns.length = k) (hs : ∀ n ∈ ns, smallI n ∧ -9223372036854775807 ≤ n) (hl : word.length + 22 * k ≤ 1000) (W : World) (gA : Nat) (h : NumsR W (some ⟨gA, 0, none⟩) k ns) :
    Calls Tryz.prog 14 #[.string ⟨ws⟩, .slice (some ⟨gA, 0, none⟩) k k] W (RB W (.string ⟨(lnW word ns ++ [10]).toArray⟩)) := by
  subst hw; exact l43line_any word _ k k ns W h hs (by rw [hk]; exact hl)
theorem keep_sliceK {t : TypeId} {n : Nat} {cs : Array Value} : ∀ (d : List Value) (v : Value) (w w' : World), Below w.heap.size w w' → SliceN [] t n cs d v w → SliceN [] t n cs d v w' := fun _ _ _ _ h ⟨g, e, hn, hb⟩ => ⟨g, e, hn, Blk.keep h hb⟩
theorem past_below {b g : Nat} {a w w' : World} (h : Below a.heap.size a w) (hp : Past [b, g] w w') (hb : a.heap.size ≤ b) (hg : a.heap.size ≤ g) : Below a.heap.size a w' :=
  ⟨hp.2.1.trans h.os, hp.2.2.1.trans h.tape, hp.2.2.2.1.trans h.output, Nat.le_trans h.size hp.1, fun k hk => (hp.2.2.2.2 k (Nat.lt_of_lt_of_le hk h.size) (by simp; omega)).trans (h.block k hk)⟩
set_option maxRecDepth 100000 in
set_option maxHeartbeats 16000000 in
theorem tells_core (LA : Option Addr) (llen lcap : Nat) (ls0 : List Int) (p : Int) (w : World) (hI : IntsAt w LA llen ls0) (p0 : 0 ≤ p) (p1 : p < 65536) (hpow : Pow10 w) (hml : MaxLenAt w) :
    Calls Tryz.prog 5 #[.slice LA llen lcap, .int .u16 p] w (RB w (.bool true)) := by
  have HI := Lib.hid hI; have HPW := Lib.hid hpow; have HML := Lib.hid hml; clear hI hpow hml
  have wp_ : IntKind.i64.wrap p = p := IntWalk.i64_in _ (by omega)
  go_enter Tryz.func5, Tryz.ntmps5
  go_wp2_with fail
  refine (new_any LA llen lcap ls0 _ HI.out).mono ?_
  rintro e w1 ⟨rfl, ht1, hb1⟩
  have K1 : Below w.heap.size w w1 := kept_call hb1 (by (repeat' (first | (with_reducible exact Below.refl _ _) | (with_reducible refine Below.setCell ?_ ?_ _) | (with_reducible refine Below.alloc ?_ ?_ _) | (with_reducible refine Below.drew ?_) | (with_reducible refine below_drewN ?_ _))) <;> (first | omega | (simp <;> omega)))
  have Z1 : w.heap.size ≤ w1.heap.size := K1.size
  clear hb1
  have T1 := ht1.lt
  have HT := Lib.hid ht1; clear ht1
  go_wp2_with fail
  refine (int_any _ 50 _ (by (repeat' (first | (with_reducible exact HT.out) | (with_reducible refine' TapeAt.alloc ?_ _) | (with_reducible refine' TapeAt.drew ?_) | (with_reducible refine' TapeAt.drewN ?_ _) | (with_reducible refine' TapeAt.set ?_ ?_ _))) <;> (first | omega | (simp <;> omega))) (by omega) (by omega)).mono ?_
  rintro e w2 ⟨t1, rfl, a0, a1, ht2, hg2⟩
  have K2 : Below w.heap.size w w2 := below_grown2 (by (repeat' (first | (with_reducible exact K1) | (with_reducible refine Below.setCell ?_ ?_ _) | (with_reducible refine Below.alloc ?_ ?_ _) | (with_reducible refine Below.drew ?_) | (with_reducible refine below_drewN ?_ _))) <;> (first | omega | (simp <;> omega))) hg2 (by first | omega | (simp <;> omega))
  have Z2 : w.heap.size ≤ w2.heap.size := K2.size
  clear HT; have T2 := ht2.lt; have HT := Lib.hid ht2; clear ht2
  clear hg2 K1
  go_wp2_with fail
  refine (int_any _ 90 _ (by (repeat' (first | (with_reducible exact HT.out) | (with_reducible refine' TapeAt.alloc ?_ _) | (with_reducible refine' TapeAt.drew ?_) | (with_reducible refine' TapeAt.drewN ?_ _) | (with_reducible refine' TapeAt.set ?_ ?_ _))) <;> (first | omega | (simp <;> omega))) (by omega) (by omega)).mono ?_
  rintro e w3 ⟨v2, rfl, v20, v21, ht3, hg3⟩
  have K3 : Below w.heap.size w w3 := below_grown2 (by (repeat' (first | (with_reducible exact K2) | (with_reducible refine Below.setCell ?_ ?_ _) | (with_reducible refine Below.alloc ?_ ?_ _) | (with_reducible refine Below.drew ?_) | (with_reducible refine below_drewN ?_ _))) <;> (first | omega | (simp <;> omega))) hg3 (by first | omega | (simp <;> omega))
  have Z3 : w.heap.size ≤ w3.heap.size := K3.size
  clear HT; have T3 := ht3.lt; have HT := Lib.hid ht3; clear ht3
  clear hg3 K2
  obtain ⟨t2, ht2⟩ : ∃ t2, 1000 + v2 = t2 := ⟨_, rfl⟩
  have w2_ : IntKind.i64.wrap (1000 + v2) = t2 := by rw [IntWalk.i64_in _ (by omega)]; exact ht2
  have b0 : 1000 ≤ t2 := by omega
  have b1 : t2 < 1090 := by omega
  go_wp2_with fail
  refine (int_any _ 30 _ (by (repeat' (first | (with_reducible exact HT.out) | (with_reducible refine' TapeAt.alloc ?_ _) | (with_reducible refine' TapeAt.drew ?_) | (with_reducible refine' TapeAt.drewN ?_ _) | (with_reducible refine' TapeAt.set ?_ ?_ _))) <;> (first | omega | (simp <;> omega))) (by omega) (by omega)).mono ?_
  rintro e w4 ⟨er, rfl, e0, e1, ht4, hg4⟩
  have K4 : Below w.heap.size w w4 := below_grown2 (by (repeat' (first | (with_reducible exact K3) | (with_reducible refine Below.setCell ?_ ?_ _) | (with_reducible refine Below.alloc ?_ ?_ _) | (with_reducible refine Below.drew ?_) | (with_reducible refine below_drewN ?_ _))) <;> (first | omega | (simp <;> omega))) hg4 (by first | omega | (simp <;> omega))
  have Z4 : w.heap.size ≤ w4.heap.size := K4.size
  clear HT; have T4 := ht4.lt; have HT := Lib.hid ht4; clear ht4
  clear hg4 K3
  clear ht2 v20 v21
  go_upto_region 3 with fail
  refine wp_region_calm (by kernel_rfl) (fun n us w' => TapeAt w' w.heap.size ∧ Past [w.heap.size, w4.heap.size] w4 w' ∧ Blk w' w4.heap.size 37 (smS t1 t2 er n us)) (fun _ _ => True) [(Is (.pointer (some ⟨w4.heap.size, 1, none⟩))), (Is (.int .i64 t2)), (Is (.pointer (some ⟨w.heap.size, 0, none⟩))), (InR 0 50), (Pure fun _ v => ∃ r, v = .int .i64 r ∧ t2 ≤ r ∧ r < t2 + 50), (Is (.pointer (some ⟨w4.heap.size, 0, none⟩))), (Is (.int .i64 t1)), (Is (.pointer (some ⟨w.heap.size, 0, none⟩))), (InR 0 90), (Pure fun _ v => ∃ r, v = .int .i64 r ∧ t1 ≤ r ∧ r < t1 + 90), (Is (.pointer (some ⟨w4.heap.size, 2, none⟩))), (fun _ _ _ => True), (Is (.pointer (some ⟨w4.heap.size, 3, none⟩))), (fun _ _ _ => True)] [[], [0], [], [2], [1, 3], [], [5], [], [7], [6, 8], [], [10, 4], [], [12, 9]] [11, 13] [4, 9] rfl (by kernel_rfl) (fun u => by (simp only [calmPut, Act.put, List.setIfInBounds_toArray, List.set_cons_zero, List.set_cons_succ, Nat.zero_add, Nat.reduceAdd]; rfl)) ?_ (calmKeep_cons keep_is' (calmKeep_cons keep_is' (calmKeep_cons keep_is' (calmKeep_cons keep_inR (calmKeep_cons keep_pure (calmKeep_cons keep_is' (calmKeep_cons keep_is' (calmKeep_cons keep_is' (calmKeep_cons keep_inR (calmKeep_cons keep_pure (calmKeep_cons keep_is' (calmKeep_cons keep_triv (calmKeep_cons keep_is' (calmKeep_cons keep_triv (calmKeep_nil))))))))))))))) ?_ ?_
  · intro _
    exact ⟨(HT.out.alloc _).drew, (Past.alloc _ _ _).drew, (Blk.new _ _ _).drew⟩
  · skip
    refine calmSteps_cons (fun u wq n hn hn2 hC hk K hK => ?_) ?_
    · obtain ⟨hT, hP, hX⟩ := hC
      clear hk
      have HT := Lib.hid hT; have HP := Lib.hid hP; clear hT hP
      go_simp
      exact hK _ _ _ rfl ⟨HT.out, HP.out, hX⟩ trivial rfl
    refine calmSteps_cons (fun u wq n hn hn2 hC hk K hK => ?_) ?_
    · obtain ⟨hT, hP, hX⟩ := hC
      simp only [calmKnown, List.getElem?_cons_zero, List.getElem?_cons_succ, and_true, Is, Pure, Option.some.injEq, List.getD_cons_zero, List.getD_cons_succ, List.map_cons, List.map_nil] at hk
      have h0 := hk; clear hk
      simp only [h0] at hK ⊢
      have H0 := Lib.hid h0; clear h0
      have HT := Lib.hid hT; have HP := Lib.hid hP; clear hT hP
      have c9 : wq.cell? ⟨w4.heap.size, 1, none⟩ = some (.int .i64 t2) := (Blk.cell hX 1).trans rfl
      go_simp
      exact hK _ _ _ rfl ⟨HT.out, HP.out, hX⟩ trivial rfl
    refine calmSteps_cons (fun u wq n hn hn2 hC hk K hK => ?_) ?_
    · obtain ⟨hT, hP, hX⟩ := hC
      clear hk
      have HT := Lib.hid hT; have HP := Lib.hid hP; clear hT hP
      go_simp
      exact hK _ _ _ rfl ⟨HT.out, HP.out, hX⟩ trivial rfl
    refine calmSteps_cons (fun u wq n hn hn2 hC hk K hK => ?_) ?_
    · obtain ⟨hT, hP, hX⟩ := hC
      simp only [calmKnown, List.getElem?_cons_zero, List.getElem?_cons_succ, and_true, Is, Pure, Option.some.injEq, List.getD_cons_zero, List.getD_cons_succ, List.map_cons, List.map_nil] at hk
      have h2 := hk; clear hk
      simp only [h2] at hK ⊢
      have H2 := Lib.hid h2; clear h2
      have HT := Lib.hid hT; have HP := Lib.hid hP; clear hT hP
      go_wp2_with fail
      refine (int_any _ 50 _ HT.out (by omega) (by omega)).mono ?_
      rintro e w9 ⟨v, rfl, v0, v1, ht, hgr⟩
      have hq := Past.grown (X := [w.heap.size, w4.heap.size]) hgr (by simp)
      exact hK _ _ _ rfl ⟨ht, HP.out.trans hq, Blk.keepG hgr hX (by omega)⟩ trivial ⟨v, rfl, v0, v1⟩
    refine calmSteps_cons (fun u wq n hn hn2 hC hk K hK => ?_) ?_
    · obtain ⟨hT, hP, hX⟩ := hC
      simp only [calmKnown, List.getElem?_cons_zero, List.getElem?_cons_succ, and_true, Is, Pure, Option.some.injEq, List.getD_cons_zero, List.getD_cons_succ, List.map_cons, List.map_nil] at hk
      obtain ⟨h1, ⟨x3, h3, p3, q3⟩⟩ := hk
      simp only [h1, h3] at hK ⊢
      have H1 := Lib.hid h1; clear h1; have H3 := Lib.hid h3; clear h3
      have HT := Lib.hid hT; have HP := Lib.hid hP; clear hT hP
      have wr : IntKind.i64.wrap (t2 + x3) = t2 + x3 := IntWalk.i64_in _ (by omega)
      go_simp
      obtain rfl : n = 0 := Nat.le_zero.1 (hn2 0 11 rfl (by kernel_rfl))
      exact hK _ _ _ rfl ⟨HT.out, HP.out, hX⟩ trivial ⟨t2 + x3, rfl, by omega, by omega⟩
    refine calmSteps_cons (fun u wq n hn hn2 hC hk K hK => ?_) ?_
    · obtain ⟨hT, hP, hX⟩ := hC
      clear hk
      have HT := Lib.hid hT; have HP := Lib.hid hP; clear hT hP
      go_simp
      exact hK _ _ _ rfl ⟨HT.out, HP.out, hX⟩ trivial rfl
    refine calmSteps_cons (fun u wq n hn hn2 hC hk K hK => ?_) ?_
    · obtain ⟨hT, hP, hX⟩ := hC
      simp only [calmKnown, List.getElem?_cons_zero, List.getElem?_cons_succ, and_true, Is, Pure, Option.some.injEq, List.getD_cons_zero, List.getD_cons_succ, List.map_cons, List.map_nil] at hk
      have h5 := hk; clear hk
      simp only [h5] at hK ⊢
      have H5 := Lib.hid h5; clear h5
      have HT := Lib.hid hT; have HP := Lib.hid hP; clear hT hP
      have c9 : wq.cell? ⟨w4.heap.size, 0, none⟩ = some (.int .i64 t1) := (Blk.cell hX 0).trans rfl
      go_simp
      exact hK _ _ _ rfl ⟨HT.out, HP.out, hX⟩ trivial rfl
    refine calmSteps_cons (fun u wq n hn hn2 hC hk K hK => ?_) ?_
    · obtain ⟨hT, hP, hX⟩ := hC
      clear hk
      have HT := Lib.hid hT; have HP := Lib.hid hP; clear hT hP
      go_simp
      exact hK _ _ _ rfl ⟨HT.out, HP.out, hX⟩ trivial rfl
    refine calmSteps_cons (fun u wq n hn hn2 hC hk K hK => ?_) ?_
    · obtain ⟨hT, hP, hX⟩ := hC
      simp only [calmKnown, List.getElem?_cons_zero, List.getElem?_cons_succ, and_true, Is, Pure, Option.some.injEq, List.getD_cons_zero, List.getD_cons_succ, List.map_cons, List.map_nil] at hk
      have h7 := hk; clear hk
      simp only [h7] at hK ⊢
      have H7 := Lib.hid h7; clear h7
      have HT := Lib.hid hT; have HP := Lib.hid hP; clear hT hP
      go_wp2_with fail
      refine (int_any _ 90 _ HT.out (by omega) (by omega)).mono ?_
      rintro e w9 ⟨v, rfl, v0, v1, ht, hgr⟩
      have hq := Past.grown (X := [w.heap.size, w4.heap.size]) hgr (by simp)
      exact hK _ _ _ rfl ⟨ht, HP.out.trans hq, Blk.keepG hgr hX (by omega)⟩ trivial ⟨v, rfl, v0, v1⟩
    refine calmSteps_cons (fun u wq n hn hn2 hC hk K hK => ?_) ?_
    · obtain ⟨hT, hP, hX⟩ := hC
      simp only [calmKnown, List.getElem?_cons_zero, List.getElem?_cons_succ, and_true, Is, Pure, Option.some.injEq, List.getD_cons_zero, List.getD_cons_succ, List.map_cons, List.map_nil] at hk
      obtain ⟨h6, ⟨x8, h8, p8, q8⟩⟩ := hk
      simp only [h6, h8] at hK ⊢
      have H6 := Lib.hid h6; clear h6; have H8 := Lib.hid h8; clear h8
      have HT := Lib.hid hT; have HP := Lib.hid hP; clear hT hP
      have wr : IntKind.i64.wrap (t1 + x8) = t1 + x8 := IntWalk.i64_in _ (by omega)
      go_simp
      have hn9 : n = 0 ∨ n = 1 := by have := hn2 1 13 rfl (by kernel_rfl); omega
      rcases hn9 with rfl | rfl
      all_goals skip
      all_goals exact hK _ _ _ rfl ⟨HT.out, HP.out, hX⟩ trivial ⟨t1 + x8, rfl, by omega, by omega⟩
    refine calmSteps_cons (fun u wq n hn hn2 hC hk K hK => ?_) ?_
    · obtain ⟨hT, hP, hX⟩ := hC
      clear hk
      have HT := Lib.hid hT; have HP := Lib.hid hP; clear hT hP
      go_simp
      exact hK _ _ _ rfl ⟨HT.out, HP.out, hX⟩ trivial rfl
    refine calmSteps_cons (fun u wq n hn hn2 hC hk K hK => ?_) ?_
    · obtain ⟨hT, hP, hX⟩ := hC
      simp only [calmKnown, List.getElem?_cons_zero, List.getElem?_cons_succ, and_true, Is, Pure, Option.some.injEq, List.getD_cons_zero, List.getD_cons_succ, List.map_cons, List.map_nil] at hk
      obtain ⟨h10, ⟨r, h4, r0, r1⟩⟩ := hk
      simp only [h10, h4] at hK ⊢
      have H10 := Lib.hid h10; clear h10; have H4 := Lib.hid h4; clear h4
      obtain rfl := hn 0 rfl
      have HT := Lib.hid hT; have HP := Lib.hid hP; clear hT hP
      have hX1 : Blk wq w4.heap.size 37 #[.int .i64 t1, .int .i64 t2, .int .i64 0, .int .i64 0, .int .i64 er] := hX
      clear hX
      have cX := hX1.cell; have fX := hX1.frozen; have lX := hX1.lt
      have hX2 := hX1.set_ 2 (.int .i64 r)
      simp only [List.setIfInBounds_toArray, List.set_cons_zero, List.set_cons_succ] at hX2
      go_simp
      exact hK _ undef _ rfl ⟨HT.out.set (by simp; omega) _, HP.out.trans (Past.set (by simp) _), (show Blk _ w4.heap.size 37 (smS t1 t2 er 1 [u 4, u 9]) from by simp only [smS, smS2, smS3, List.getD_cons_zero, List.getD_cons_succ, H4.out]; exact hX2)⟩ trivial trivial
    refine calmSteps_cons (fun u wq n hn hn2 hC hk K hK => ?_) ?_
    · obtain ⟨hT, hP, hX⟩ := hC
      clear hk
      have HT := Lib.hid hT; have HP := Lib.hid hP; clear hT hP
      go_simp
      exact hK _ _ _ rfl ⟨HT.out, HP.out, hX⟩ trivial rfl
    refine calmSteps_cons (fun u wq n hn hn2 hC hk K hK => ?_) ?_
    · obtain ⟨hT, hP, hX⟩ := hC
      simp only [calmKnown, List.getElem?_cons_zero, List.getElem?_cons_succ, and_true, Is, Pure, Option.some.injEq, List.getD_cons_zero, List.getD_cons_succ, List.map_cons, List.map_nil] at hk
      obtain ⟨h12, ⟨r, h9, r0, r1⟩⟩ := hk
      simp only [h12, h9] at hK ⊢
      have H12 := Lib.hid h12; clear h12; have H9 := Lib.hid h9; clear h9
      obtain rfl := hn 1 rfl
      have HT := Lib.hid hT; have HP := Lib.hid hP; clear hT hP
      have hX1 : Blk wq w4.heap.size 37 #[.int .i64 t1, .int .i64 t2, u 4, .int .i64 0, .int .i64 er] := hX
      clear hX
      have cX := hX1.cell; have fX := hX1.frozen; have lX := hX1.lt
      have hX2 := hX1.set_ 3 (.int .i64 r)
      simp only [List.setIfInBounds_toArray, List.set_cons_zero, List.set_cons_succ] at hX2
      go_simp
      exact hK _ undef _ rfl ⟨HT.out.set (by simp; omega) _, HP.out.trans (Past.set (by simp) _), (show Blk _ w4.heap.size 37 (smS t1 t2 er 2 [u 4, u 9]) from by simp only [smS, smS2, smS3, List.getD_cons_zero, List.getD_cons_succ, H9.out]; exact hX2)⟩ trivial trivial
    exact calmSteps_nil
  · intro u w5 hC hF
    obtain ⟨ht5, hP, hX⟩ := hC
    replace hX : Blk w5 w4.heap.size 37 (smS t1 t2 er 2 [u 4, u 9]) := hX
    simp only [calmFacts, Pure, Is, List.map_cons, List.map_nil, and_true, Nat.zero_add, Nat.reduceAdd] at hF
    obtain ⟨-, -, -, -, ⟨t3, h4, c0, c1⟩, -, -, -, -, ⟨t4, h9, d0, d1⟩, -, -⟩ := hF
    simp only [smS, smS2, smS3, List.getD_cons_zero, List.getD_cons_succ, h4, h9] at hX
    have K5 : Below w.heap.size w w5 := past_below K4 hP (by omega) (by omega)
    have Z5 : w.heap.size ≤ w5.heap.size := K5.size
    have bX := hX; clear hX hP HT K4; have T5 := ht5.lt; have HT := Lib.hid ht5; clear ht5 h4 h9
    obtain ⟨gx, hgx⟩ : ∃ g, w4.heap.size = g := ⟨_, rfl⟩
    have hbx : w.heap.size < gx := by omega
    rw [hgx] at bX ⊢
    clear hgx T1 T2 T3 T4 Z1 Z2 Z3 Z4
    obtain ⟨cX, fX, lX, eX, kX⟩ := Blk.facts bX
    go_wp2_with fail
    refine (int_any _ 500 _ (by (repeat' (first | (with_reducible exact HT.out) | (with_reducible refine' TapeAt.alloc ?_ _) | (with_reducible refine' TapeAt.drew ?_) | (with_reducible refine' TapeAt.drewN ?_ _) | (with_reducible refine' TapeAt.set ?_ ?_ _))) <;> (first | omega | (simp <;> omega))) (by omega) (by omega)).mono ?_
    rintro e w6 ⟨d, rfl, f0, f1, ht6, hg6⟩
    have K6 : Below w.heap.size w w6 := below_grown2 (by (repeat' (first | (with_reducible exact K5) | (with_reducible refine Below.setCell ?_ ?_ _) | (with_reducible refine Below.alloc ?_ ?_ _) | (with_reducible refine Below.drew ?_) | (with_reducible refine below_drewN ?_ _))) <;> (first | omega | (simp <;> omega))) hg6 (by first | omega | (simp <;> omega))
    have Z6 : w.heap.size ≤ w6.heap.size := K6.size
    have bX' := Blk.keepG (g := gx) hg6 (by (repeat' (first | (with_reducible refine' Blk.alloc ?_ _) | (with_reducible refine' Blk.drew ?_) | (with_reducible refine' Blk.drewN ?_ _) | (with_reducible refine' Blk.put ?_ ?_) | (with_reducible refine' Blk.far ?_ ?_ _) | exact bX | exact rfl)) <;> (first | omega | (simp <;> omega))) (by first | omega | (simp <;> omega))
    (try simp only [List.setIfInBounds_toArray, List.set_cons_zero, List.set_cons_succ] at bX')
    clear HT; have T6 := ht6.lt; have HT := Lib.hid ht6; clear ht6
    clear hg6 K5
    clear bX cX fX lX eX kX; have bX := bX'; clear bX'
    obtain ⟨cX, fX, lX, eX, kX⟩ := Blk.facts bX
    obtain ⟨u9, hu9⟩ : ∃ u9, t4 + d = u9 := ⟨_, rfl⟩
    have wu : IntKind.i64.wrap (t4 + d) = u9 := by rw [IntWalk.i64_in _ (by omega)]; exact hu9
    have hsm : ∀ n ∈ [p, t1, t2, t3, t4, er, u9], small17 n := fun n hn => by
      simp only [List.mem_cons, List.mem_nil_iff, or_false] at hn
      rcases hn with rfl | rfl | rfl | rfl | rfl | rfl | rfl <;> exact ⟨by omega, by omega⟩
    have hV := sT_val hsm p0 (by omega) (by omega) (by omega) (by omega) (by omega)
    have hS := at_small a0 a1 b0 b1 c0 c1 d0 d1 e0 e1 p0 (show p ≤ 1000000 by omega)
    have hTL := sT_len hsm; have hTG := sT_good hsm
    have z0 : smallI 0 ∧ -9223372036854775807 ≤ (0 : Int) := ⟨⟨by decide, by decide⟩, by decide⟩
    have zI : ∀ n : Int, -100000 ≤ n → n ≤ 100000 → smallI n ∧ -9223372036854775807 ≤ n := fun n h1 h2 => ⟨⟨by omega, by omega⟩, by omega⟩
    have R1 := Lib.hid (fun W gA h => l43lineG #[115, 111, 117, 114, 99, 101, 115] wSources rfl [1, 0] 2 rfl (fun n hn => by simp only [List.mem_cons, List.mem_nil_iff, or_false] at hn; rcases hn with rfl | rfl; all_goals exact zI _ (by omega) (by omega)) (by decide) W gA h)
    have nL1 := lnW_len (word := wSources) (ns := [1, 0]) (fun n hn => by simp only [List.mem_cons, List.mem_nil_iff, or_false] at hn; rcases hn with rfl | rfl; all_goals exact (zI _ (by omega) (by omega)).1)
    replace nL1 : (lnW wSources [1, 0] ++ [10]).length ≤ 200 := by rw [List.length_append]; simp only [wSources, List.length_cons, List.length_nil] at nL1 ⊢; omega
    have R2 := Lib.hid (fun W gA h => l43lineG #[100, 114, 105, 102, 116] wDrift rfl [p] 1 rfl (fun n hn => by simp only [List.mem_cons, List.mem_nil_iff, or_false] at hn; rcases hn with rfl; all_goals exact zI _ (by omega) (by omega)) (by decide) W gA h)
    have nL2 := lnW_len (word := wDrift) (ns := [p]) (fun n hn => by simp only [List.mem_cons, List.mem_nil_iff, or_false] at hn; rcases hn with rfl; all_goals exact (zI _ (by omega) (by omega)).1)
    replace nL2 : (lnW wDrift [p] ++ [10]).length ≤ 200 := by rw [List.length_append]; simp only [wDrift, List.length_cons, List.length_nil] at nL2 ⊢; omega
    have R3 := Lib.hid (fun W gA h => l43lineG #[115, 97, 109, 112, 108, 101] wSample rfl [0, t1, t2, t3, t4, er] 6 rfl (fun n hn => by simp only [List.mem_cons, List.mem_nil_iff, or_false] at hn; rcases hn with rfl | rfl | rfl | rfl | rfl | rfl; all_goals exact zI _ (by omega) (by omega)) (by decide) W gA h)
    have nL3 := lnW_len (word := wSample) (ns := [0, t1, t2, t3, t4, er]) (fun n hn => by simp only [List.mem_cons, List.mem_nil_iff, or_false] at hn; rcases hn with rfl | rfl | rfl | rfl | rfl | rfl; all_goals exact (zI _ (by omega) (by omega)).1)
    replace nL3 : (lnW wSample [0, t1, t2, t3, t4, er] ++ [10]).length ≤ 200 := by rw [List.length_append]; simp only [wSample, List.length_cons, List.length_nil] at nL3 ⊢; omega
    have R4 := Lib.hid (fun W gA h => l43lineG #[110, 111, 119] wNow rfl [u9] 1 rfl (fun n hn => by simp only [List.mem_cons, List.mem_nil_iff, or_false] at hn; rcases hn with rfl; all_goals exact zI _ (by omega) (by omega)) (by decide) W gA h)
    have nL4 := lnW_len (word := wNow) (ns := [u9]) (fun n hn => by simp only [List.mem_cons, List.mem_nil_iff, or_false] at hn; rcases hn with rfl; all_goals exact (zI _ (by omega) (by omega)).1)
    replace nL4 : (lnW wNow [u9] ++ [10]).length ≤ 200 := by rw [List.length_append]; simp only [wNow, List.length_cons, List.length_nil] at nL4 ⊢; omega
    obtain ⟨sx, hsx⟩ : ∃ a, sT p t1 t2 t3 t4 er u9 = a := ⟨_, rfl⟩
    rw [hsx] at hV hTL hTG
    unfold sT at hsx
    obtain ⟨L1, hL1⟩ : ∃ a, lnW wSources [1, 0] ++ [10] = a := ⟨_, rfl⟩
    rw [hL1] at R1 hsx hV nL1
    clear hL1
    obtain ⟨L2, hL2⟩ : ∃ a, lnW wDrift [p] ++ [10] = a := ⟨_, rfl⟩
    rw [hL2] at R2 hsx hV nL2
    clear hL2
    obtain ⟨L3, hL3⟩ : ∃ a, lnW wSample [0, t1, t2, t3, t4, er] ++ [10] = a := ⟨_, rfl⟩
    rw [hL3] at R3 hsx nL3
    clear hL3
    obtain ⟨L4, hL4⟩ : ∃ a, lnW wNow [u9] ++ [10] = a := ⟨_, rfl⟩
    rw [hL4] at R4 hsx nL4
    clear hL4
    obtain ⟨M2, hM2⟩ : ∃ a, L1 ++ L2 = a := ⟨_, rfl⟩
    rw [hM2] at hsx hV
    obtain ⟨M3, hM3⟩ : ∃ a, M2 ++ L3 = a := ⟨_, rfl⟩
    rw [hM3] at hsx
    have nM2 : M2.length ≤ 400 := by rw [← hM2, List.length_append]; omega
    have nM3 : M3.length ≤ 600 := by rw [← hM3, List.length_append]; omega
    have HM2 := Lib.hid hM2; have HM3 := Lib.hid hM3; have HM4 := Lib.hid hsx; clear hM2 hM3 hsx
    have hO : ∃ (f lo hi x y : Int) (O : List UInt8), scriptV noSave sx = (O, 0, 0) ∧ atT t1 t2 t3 t4 er p = (lo, hi, f) ∧ ((f = 20 ∧ lo = 0 ∧ hi = 0 ∧ O = M2 ++ (lnW wError [20] ++ [10]) ++ (lnW wError [4] ++ [10])) ∨ (f = 0 ∧ 900 ≤ lo ∧ lo ≤ hi ∧ hi ≤ 2000 ∧ kE t4 lo hi p 0 0 = 0 ∧ nowT t4 lo hi p 0 0 u9 = (x, y, 0) ∧ 900 ≤ x ∧ x ≤ y ∧ y ≤ 30000 ∧ O = M2 ++ (lnW wLearnt [0, lo, hi] ++ [10]) ++ (lnW wSpan [x, y] ++ [10]))) := by
      rcases hS with h | ⟨lo, hi, h, q1, q2, q3⟩
      · exact ⟨20, 0, 0, 0, 0, _, hV.1 h, h, .inl ⟨rfl, rfl, rfl, rfl⟩⟩
      · obtain ⟨x, y, k1, k2, k3, k4, k5, k6⟩ := hV.2 lo hi h q1 q2 q3
        exact ⟨0, lo, hi, x, y, _, k6, h, .inr ⟨rfl, q1, q2, q3, k5, k1, k2, k3, k4, rfl⟩⟩
    obtain ⟨f, lo, hi, x, y, O, hO1, hO2, hO3⟩ := hO
    have RR := Lib.hid (fun W h1 h2 => run43_any noSave ⟨sx.toArray⟩ W h1 h2 (by show sx.toArray.size ≤ _; simp; omega) (by simpa using hTG))
    rw [show (⟨sx.toArray⟩ : ByteArray).data.toList = sx from rfl, hO1] at RR
    unfold scR at RR
    dsimp only at RR
    have RAT := Lib.hid (fun W => (atT_V t1 t2 t3 t4 er p) ▸ rat_any t1 t2 t3 t4 er p W)
    rw [hO2] at RAT
    unfold V3 at RAT
    dsimp only at RAT
    have HO := Lib.hid hO3
    clear hO1 hO2 hO3 hV hS hTL hTG hsm hu9 z0
    go_upto_region 6 with fail
    refine' wp_region_calm (by kernel_rfl) (fun _ _ w' => Below w6.heap.size w6 w' ∧ Blk w' gx 37 #[.int .i64 t1, .int .i64 t2, .int .i64 t3, .int .i64 t4, .int .i64 er]) (fun a b => Below a.heap.size a b) ((SliceN [] 3 2 #[.int .i64 1, .int .i64 0]) :: (Is _) :: (Is _) :: (SliceN [] 3 1 #[.int .i64 p]) :: (Is _) :: (Is (.string ⟨M2.toArray⟩)) :: (Is _) :: (Is _) :: (Is _) :: (Is _) :: (Is _) :: (Is _) :: (Is _) :: (Is _) :: (Is _) :: (Is _) :: (SliceN [] 3 6 #[.int .i64 0, .int .i64 t1, .int .i64 t2, .int .i64 t3, .int .i64 t4, .int .i64 er]) :: (Is _) :: (Is (.string ⟨M3.toArray⟩)) :: (Is _) :: (Is _) :: (Is _) :: (Is _) :: (SliceN [] 3 1 #[.int .i64 u9]) :: (Is _) :: (Is (.string ⟨sx.toArray⟩)) :: (Is _) :: (Is _) :: (Is _) :: (Is _) :: (Is _) :: (Is _) :: (Is _) :: (Is _) :: []) ([] :: [0] :: [] :: [2] :: [3] :: [1, 4] :: [] :: [6] :: [] :: [8] :: [] :: [10] :: [] :: [12] :: [] :: [14] :: [7, 9, 11, 13, 15] :: [16] :: [5, 17] :: [] :: [19] :: [] :: [20, 21] :: [22] :: [23] :: [18, 24] :: [25] :: [26] :: [27] :: [27] :: [27] :: [28] :: [29] :: [30] :: []) [] [] rfl (by kernel_rfl) (fun u => by (simp only [calmPut, Act.put, List.setIfInBounds_toArray, List.set_cons_zero, List.set_cons_succ, Nat.zero_add, Nat.reduceAdd]; rfl)) ?_ (calmKeep_cons keep_sliceK (calmKeep_cons keep_is' (calmKeep_cons keep_is' (calmKeep_cons keep_sliceK (calmKeep_cons keep_is' (calmKeep_cons keep_is' (calmKeep_cons keep_is' (calmKeep_cons keep_is' (calmKeep_cons keep_is' (calmKeep_cons keep_is' (calmKeep_cons keep_is' (calmKeep_cons keep_is' (calmKeep_cons keep_is' (calmKeep_cons keep_is' (calmKeep_cons keep_is' (calmKeep_cons keep_is' (calmKeep_cons keep_sliceK (calmKeep_cons keep_is' (calmKeep_cons keep_is' (calmKeep_cons keep_is' (calmKeep_cons keep_is' (calmKeep_cons keep_is' (calmKeep_cons keep_is' (calmKeep_cons keep_sliceK (calmKeep_cons keep_is' (calmKeep_cons keep_is' (calmKeep_cons keep_is' (calmKeep_cons keep_is' (calmKeep_cons keep_is' (calmKeep_cons keep_is' (calmKeep_cons keep_is' (calmKeep_cons keep_is' (calmKeep_cons keep_is' (calmKeep_cons keep_is' (calmKeep_nil))))))))))))))))))))))))))))))))))) ?_ ?_
    · intro _
      exact ⟨(Below.refl _ _).drew, bX.drew⟩
    rotate_left 27
    · skip
      refine calmSteps_cons (fun u wq n hn hn2 hC hk K hK => ?_) ?_
      · obtain ⟨hP, hX⟩ := hC
        clear hk
        go_simp
        exact hK _ _ _ rfl ⟨kept_call (below_new _ _) hP, hX.alloc _⟩ (below_new _ _) ⟨_, rfl, (by simp), Blk.new _ _ _⟩
      refine calmSteps_cons (fun u wq n hn hn2 hC hk K hK => ?_) ?_
      · obtain ⟨hP, hX⟩ := hC
        simp only [calmKnown, List.getElem?_cons_zero, List.getElem?_cons_succ, and_true, Is, Pure, Option.some.injEq, List.getD_cons_zero, List.getD_cons_succ, List.map_cons, List.map_nil] at hk
        obtain ⟨g0, h0, -, q0⟩ := hk
        simp only [h0] at hK ⊢
        have H0 := Lib.hid h0; clear h0
        go_wp2_with fail
        refine (R1.out _ _ (NumsR.of (zs := [1, 0]) q0)).mono ?_
        rintro e w9 ⟨rfl, hbl⟩
        exact hK _ _ _ rfl ⟨kept_call hbl hP, Blk.keep hbl hX⟩ hbl rfl
      refine calmSteps_cons (fun u wq n hn hn2 hC hk K hK => ?_) ?_
      · obtain ⟨hP, hX⟩ := hC
        clear hk
        go_simp
        exact hK _ _ _ rfl ⟨hP, hX⟩ (Below.refl _ _) rfl
      refine calmSteps_cons (fun u wq n hn hn2 hC hk K hK => ?_) ?_
      · obtain ⟨hP, hX⟩ := hC
        simp only [calmKnown, List.getElem?_cons_zero, List.getElem?_cons_succ, and_true, Is, Pure, Option.some.injEq, List.getD_cons_zero, List.getD_cons_succ, List.map_cons, List.map_nil] at hk
        have h2 := hk; clear hk
        simp only [h2] at hK ⊢
        have H2 := Lib.hid h2; clear h2
        go_simp
        exact hK _ _ _ rfl ⟨kept_call (below_new _ _) hP, hX.alloc _⟩ (below_new _ _) ⟨_, rfl, (by simp), Blk.new _ _ _⟩
      refine calmSteps_cons (fun u wq n hn hn2 hC hk K hK => ?_) ?_
      · obtain ⟨hP, hX⟩ := hC
        simp only [calmKnown, List.getElem?_cons_zero, List.getElem?_cons_succ, and_true, Is, Pure, Option.some.injEq, List.getD_cons_zero, List.getD_cons_succ, List.map_cons, List.map_nil] at hk
        obtain ⟨g3, h3, -, q3⟩ := hk
        simp only [h3] at hK ⊢
        have H3 := Lib.hid h3; clear h3
        go_wp2_with fail
        refine (R2.out _ _ (NumsR.of (zs := [p]) q3)).mono ?_
        rintro e w9 ⟨rfl, hbl⟩
        exact hK _ _ _ rfl ⟨kept_call hbl hP, Blk.keep hbl hX⟩ hbl rfl
      refine calmSteps_cons (fun u wq n hn hn2 hC hk K hK => ?_) ?_
      · obtain ⟨hP, hX⟩ := hC
        simp only [calmKnown, List.getElem?_cons_zero, List.getElem?_cons_succ, and_true, Is, Pure, Option.some.injEq, List.getD_cons_zero, List.getD_cons_succ, List.map_cons, List.map_nil] at hk
        obtain ⟨h1, h4⟩ := hk
        simp only [h1, h4] at hK ⊢
        have H1 := Lib.hid h1; clear h1; have H4 := Lib.hid h4; clear h4
        have ea : ({ data := L1.toArray } : ByteArray) ++ { data := L2.toArray } = { data := M2.toArray } := by rw [← HM2.out]; simp [ByteArray.mk_append_mk]
        go_simp
        (try simp only [ea])
        (try simp only [HM2.out])
        rw [if_neg (by omega), Oper.upon_value]
        exact hK _ _ _ rfl ⟨hP, hX⟩ (Below.refl _ _) rfl
      refine calmSteps_cons (fun u wq n hn hn2 hC hk K hK => ?_) ?_
      · obtain ⟨hP, hX⟩ := hC
        clear hk
        go_simp
        exact hK _ _ _ rfl ⟨hP, hX⟩ (Below.refl _ _) rfl
      refine calmSteps_cons (fun u wq n hn hn2 hC hk K hK => ?_) ?_
      · obtain ⟨hP, hX⟩ := hC
        simp only [calmKnown, List.getElem?_cons_zero, List.getElem?_cons_succ, and_true, Is, Pure, Option.some.injEq, List.getD_cons_zero, List.getD_cons_succ, List.map_cons, List.map_nil] at hk
        have h6 := hk; clear hk
        simp only [h6] at hK ⊢
        have H6 := Lib.hid h6; clear h6
        have cX := hX.cell; have lX := hX.lt
        go_simp
        exact hK _ _ _ rfl ⟨hP, hX⟩ (Below.refl _ _) rfl
      refine calmSteps_cons (fun u wq n hn hn2 hC hk K hK => ?_) ?_
      · obtain ⟨hP, hX⟩ := hC
        clear hk
        go_simp
        exact hK _ _ _ rfl ⟨hP, hX⟩ (Below.refl _ _) rfl
      refine calmSteps_cons (fun u wq n hn hn2 hC hk K hK => ?_) ?_
      · obtain ⟨hP, hX⟩ := hC
        simp only [calmKnown, List.getElem?_cons_zero, List.getElem?_cons_succ, and_true, Is, Pure, Option.some.injEq, List.getD_cons_zero, List.getD_cons_succ, List.map_cons, List.map_nil] at hk
        have h8 := hk; clear hk
        simp only [h8] at hK ⊢
        have H8 := Lib.hid h8; clear h8
        have cX := hX.cell; have lX := hX.lt
        go_simp
        exact hK _ _ _ rfl ⟨hP, hX⟩ (Below.refl _ _) rfl
      refine calmSteps_cons (fun u wq n hn hn2 hC hk K hK => ?_) ?_
      · obtain ⟨hP, hX⟩ := hC
        clear hk
        go_simp
        exact hK _ _ _ rfl ⟨hP, hX⟩ (Below.refl _ _) rfl
      refine calmSteps_cons (fun u wq n hn hn2 hC hk K hK => ?_) ?_
      · obtain ⟨hP, hX⟩ := hC
        simp only [calmKnown, List.getElem?_cons_zero, List.getElem?_cons_succ, and_true, Is, Pure, Option.some.injEq, List.getD_cons_zero, List.getD_cons_succ, List.map_cons, List.map_nil] at hk
        have h10 := hk; clear hk
        simp only [h10] at hK ⊢
        have H10 := Lib.hid h10; clear h10
        have cX := hX.cell; have lX := hX.lt
        go_simp
        exact hK _ _ _ rfl ⟨hP, hX⟩ (Below.refl _ _) rfl
      refine calmSteps_cons (fun u wq n hn hn2 hC hk K hK => ?_) ?_
      · obtain ⟨hP, hX⟩ := hC
        clear hk
        go_simp
        exact hK _ _ _ rfl ⟨hP, hX⟩ (Below.refl _ _) rfl
      refine calmSteps_cons (fun u wq n hn hn2 hC hk K hK => ?_) ?_
      · obtain ⟨hP, hX⟩ := hC
        simp only [calmKnown, List.getElem?_cons_zero, List.getElem?_cons_succ, and_true, Is, Pure, Option.some.injEq, List.getD_cons_zero, List.getD_cons_succ, List.map_cons, List.map_nil] at hk
        have h12 := hk; clear hk
        simp only [h12] at hK ⊢
        have H12 := Lib.hid h12; clear h12
        have cX := hX.cell; have lX := hX.lt
        go_simp
        exact hK _ _ _ rfl ⟨hP, hX⟩ (Below.refl _ _) rfl
      refine calmSteps_cons (fun u wq n hn hn2 hC hk K hK => ?_) ?_
      · obtain ⟨hP, hX⟩ := hC
        clear hk
        go_simp
        exact hK _ _ _ rfl ⟨hP, hX⟩ (Below.refl _ _) rfl
      refine calmSteps_cons (fun u wq n hn hn2 hC hk K hK => ?_) ?_
      · obtain ⟨hP, hX⟩ := hC
        simp only [calmKnown, List.getElem?_cons_zero, List.getElem?_cons_succ, and_true, Is, Pure, Option.some.injEq, List.getD_cons_zero, List.getD_cons_succ, List.map_cons, List.map_nil] at hk
        have h14 := hk; clear hk
        simp only [h14] at hK ⊢
        have H14 := Lib.hid h14; clear h14
        have cX := hX.cell; have lX := hX.lt
        go_simp
        exact hK _ _ _ rfl ⟨hP, hX⟩ (Below.refl _ _) rfl
      refine calmSteps_cons (fun u wq n hn hn2 hC hk K hK => ?_) ?_
      · obtain ⟨hP, hX⟩ := hC
        simp only [calmKnown, List.getElem?_cons_zero, List.getElem?_cons_succ, and_true, Is, Pure, Option.some.injEq, List.getD_cons_zero, List.getD_cons_succ, List.map_cons, List.map_nil] at hk
        obtain ⟨h7, h9, h11, h13, h15⟩ := hk
        simp only [h7, h9, h11, h13, h15] at hK ⊢
        have H7 := Lib.hid h7; clear h7; have H9 := Lib.hid h9; clear h9; have H11 := Lib.hid h11; clear h11; have H13 := Lib.hid h13; clear h13; have H15 := Lib.hid h15; clear h15
        go_simp
        exact hK _ _ _ rfl ⟨kept_call (below_new _ _) hP, hX.alloc _⟩ (below_new _ _) ⟨_, rfl, (by simp), Blk.new _ _ _⟩
      refine calmSteps_cons (fun u wq n hn hn2 hC hk K hK => ?_) ?_
      · obtain ⟨hP, hX⟩ := hC
        simp only [calmKnown, List.getElem?_cons_zero, List.getElem?_cons_succ, and_true, Is, Pure, Option.some.injEq, List.getD_cons_zero, List.getD_cons_succ, List.map_cons, List.map_nil] at hk
        obtain ⟨g16, h16, -, q16⟩ := hk
        simp only [h16] at hK ⊢
        have H16 := Lib.hid h16; clear h16
        go_wp2_with fail
        refine (R3.out _ _ (NumsR.of (zs := [0, t1, t2, t3, t4, er]) q16)).mono ?_
        rintro e w9 ⟨rfl, hbl⟩
        exact hK _ _ _ rfl ⟨kept_call hbl hP, Blk.keep hbl hX⟩ hbl rfl
      refine calmSteps_cons (fun u wq n hn hn2 hC hk K hK => ?_) ?_
      · obtain ⟨hP, hX⟩ := hC
        simp only [calmKnown, List.getElem?_cons_zero, List.getElem?_cons_succ, and_true, Is, Pure, Option.some.injEq, List.getD_cons_zero, List.getD_cons_succ, List.map_cons, List.map_nil] at hk
        obtain ⟨h5, h17⟩ := hk
        simp only [h5, h17] at hK ⊢
        have H5 := Lib.hid h5; clear h5; have H17 := Lib.hid h17; clear h17
        have ea : ({ data := M2.toArray } : ByteArray) ++ { data := L3.toArray } = { data := M3.toArray } := by rw [← HM3.out]; simp [ByteArray.mk_append_mk]
        go_simp
        (try simp only [ea])
        (try simp only [HM3.out])
        rw [if_neg (by omega), Oper.upon_value]
        exact hK _ _ _ rfl ⟨hP, hX⟩ (Below.refl _ _) rfl
      refine calmSteps_cons (fun u wq n hn hn2 hC hk K hK => ?_) ?_
      · obtain ⟨hP, hX⟩ := hC
        clear hk
        go_simp
        exact hK _ _ _ rfl ⟨hP, hX⟩ (Below.refl _ _) rfl
      refine calmSteps_cons (fun u wq n hn hn2 hC hk K hK => ?_) ?_
      · obtain ⟨hP, hX⟩ := hC
        simp only [calmKnown, List.getElem?_cons_zero, List.getElem?_cons_succ, and_true, Is, Pure, Option.some.injEq, List.getD_cons_zero, List.getD_cons_succ, List.map_cons, List.map_nil] at hk
        have h19 := hk; clear hk
        simp only [h19] at hK ⊢
        have H19 := Lib.hid h19; clear h19
        have cX := hX.cell; have lX := hX.lt
        go_simp
        exact hK _ _ _ rfl ⟨hP, hX⟩ (Below.refl _ _) rfl
      refine calmSteps_cons (fun u wq n hn hn2 hC hk K hK => ?_) ?_
      · obtain ⟨hP, hX⟩ := hC
        clear hk
        go_simp
        exact hK _ _ _ rfl ⟨hP, hX⟩ (Below.refl _ _) rfl
      refine calmSteps_cons (fun u wq n hn hn2 hC hk K hK => ?_) ?_
      · obtain ⟨hP, hX⟩ := hC
        simp only [calmKnown, List.getElem?_cons_zero, List.getElem?_cons_succ, and_true, Is, Pure, Option.some.injEq, List.getD_cons_zero, List.getD_cons_succ, List.map_cons, List.map_nil] at hk
        obtain ⟨h20, h21⟩ := hk
        simp only [h20, h21] at hK ⊢
        have H20 := Lib.hid h20; clear h20; have H21 := Lib.hid h21; clear h21
        go_simp
        exact hK _ _ _ rfl ⟨hP, hX⟩ (Below.refl _ _) rfl
      refine calmSteps_cons (fun u wq n hn hn2 hC hk K hK => ?_) ?_
      · obtain ⟨hP, hX⟩ := hC
        simp only [calmKnown, List.getElem?_cons_zero, List.getElem?_cons_succ, and_true, Is, Pure, Option.some.injEq, List.getD_cons_zero, List.getD_cons_succ, List.map_cons, List.map_nil] at hk
        have h22 := hk; clear hk
        simp only [h22] at hK ⊢
        have H22 := Lib.hid h22; clear h22
        go_simp
        exact hK _ _ _ rfl ⟨kept_call (below_new _ _) hP, hX.alloc _⟩ (below_new _ _) ⟨_, rfl, (by simp), Blk.new _ _ _⟩
      refine calmSteps_cons (fun u wq n hn hn2 hC hk K hK => ?_) ?_
      · obtain ⟨hP, hX⟩ := hC
        simp only [calmKnown, List.getElem?_cons_zero, List.getElem?_cons_succ, and_true, Is, Pure, Option.some.injEq, List.getD_cons_zero, List.getD_cons_succ, List.map_cons, List.map_nil] at hk
        obtain ⟨g23, h23, -, q23⟩ := hk
        simp only [h23] at hK ⊢
        have H23 := Lib.hid h23; clear h23
        go_wp2_with fail
        refine (R4.out _ _ (NumsR.of (zs := [u9]) q23)).mono ?_
        rintro e w9 ⟨rfl, hbl⟩
        exact hK _ _ _ rfl ⟨kept_call hbl hP, Blk.keep hbl hX⟩ hbl rfl
      refine calmSteps_cons (fun u wq n hn hn2 hC hk K hK => ?_) ?_
      · obtain ⟨hP, hX⟩ := hC
        simp only [calmKnown, List.getElem?_cons_zero, List.getElem?_cons_succ, and_true, Is, Pure, Option.some.injEq, List.getD_cons_zero, List.getD_cons_succ, List.map_cons, List.map_nil] at hk
        obtain ⟨h18, h24⟩ := hk
        simp only [h18, h24] at hK ⊢
        have H18 := Lib.hid h18; clear h18; have H24 := Lib.hid h24; clear h24
        have ea : ({ data := M3.toArray } : ByteArray) ++ { data := L4.toArray } = { data := sx.toArray } := by rw [← HM4.out]; simp [ByteArray.mk_append_mk]
        go_simp
        (try simp only [ea])
        (try simp only [HM4.out])
        rw [if_neg (by omega), Oper.upon_value]
        exact hK _ _ _ rfl ⟨hP, hX⟩ (Below.refl _ _) rfl
      refine calmSteps_cons (fun u wq n hn hn2 hC hk K hK => ?_) ?_
      · obtain ⟨hP, hX⟩ := hC
        simp only [calmKnown, List.getElem?_cons_zero, List.getElem?_cons_succ, and_true, Is, Pure, Option.some.injEq, List.getD_cons_zero, List.getD_cons_succ, List.map_cons, List.map_nil] at hk
        have h25 := hk; clear hk
        simp only [h25] at hK ⊢
        have H25 := Lib.hid h25; clear h25
        go_wp2_with fail
        refine (RR.out _ (HPW.out.below (kept_call hP K6)) (HML.out.below (kept_call hP K6))).mono ?_
        rintro e w9 ⟨rfl, hbl⟩
        exact hK _ _ _ rfl ⟨kept_call hbl hP, Blk.keep hbl hX⟩ hbl rfl
      refine calmSteps_cons (fun u wq n hn hn2 hC hk K hK => ?_) ?_
      · obtain ⟨hP, hX⟩ := hC
        simp only [calmKnown, List.getElem?_cons_zero, List.getElem?_cons_succ, and_true, Is, Pure, Option.some.injEq, List.getD_cons_zero, List.getD_cons_succ, List.map_cons, List.map_nil] at hk
        have h26 := hk; clear hk
        simp only [h26] at hK ⊢
        have H26 := Lib.hid h26; clear h26
        go_simp
        exact hK _ _ _ rfl ⟨hP, hX⟩ (Below.refl _ _) rfl
      refine calmSteps_cons (fun u wq n hn hn2 hC hk K hK => ?_) ?_
      · obtain ⟨hP, hX⟩ := hC
        simp only [calmKnown, List.getElem?_cons_zero, List.getElem?_cons_succ, and_true, Is, Pure, Option.some.injEq, List.getD_cons_zero, List.getD_cons_succ, List.map_cons, List.map_nil] at hk
        have h27 := hk; clear hk
        simp only [h27] at hK ⊢
        have H27 := Lib.hid h27; clear h27
        go_simp
        exact hK _ _ _ rfl ⟨hP, hX⟩ (Below.refl _ _) rfl
      refine calmSteps_cons (fun u wq n hn hn2 hC hk K hK => ?_) ?_
      · obtain ⟨hP, hX⟩ := hC
        simp only [calmKnown, List.getElem?_cons_zero, List.getElem?_cons_succ, and_true, Is, Pure, Option.some.injEq, List.getD_cons_zero, List.getD_cons_succ, List.map_cons, List.map_nil] at hk
        have h27 := hk; clear hk
        simp only [h27] at hK ⊢
        have H27 := Lib.hid h27; clear h27
        go_simp
        exact hK _ _ _ rfl ⟨hP, hX⟩ (Below.refl _ _) rfl
      refine calmSteps_cons (fun u wq n hn hn2 hC hk K hK => ?_) ?_
      · obtain ⟨hP, hX⟩ := hC
        simp only [calmKnown, List.getElem?_cons_zero, List.getElem?_cons_succ, and_true, Is, Pure, Option.some.injEq, List.getD_cons_zero, List.getD_cons_succ, List.map_cons, List.map_nil] at hk
        have h27 := hk; clear hk
        simp only [h27] at hK ⊢
        have H27 := Lib.hid h27; clear h27
        go_simp
        exact hK _ _ _ rfl ⟨hP, hX⟩ (Below.refl _ _) rfl
      refine calmSteps_cons (fun u wq n hn hn2 hC hk K hK => ?_) ?_
      · obtain ⟨hP, hX⟩ := hC
        simp only [calmKnown, List.getElem?_cons_zero, List.getElem?_cons_succ, and_true, Is, Pure, Option.some.injEq, List.getD_cons_zero, List.getD_cons_succ, List.map_cons, List.map_nil] at hk
        have h28 := hk; clear hk
        simp only [h28] at hK ⊢
        have H28 := Lib.hid h28; clear h28
        go_simp
        exact hK _ _ _ rfl ⟨hP, hX⟩ (Below.refl _ _) rfl
      refine calmSteps_cons (fun u wq n hn hn2 hC hk K hK => ?_) ?_
      · obtain ⟨hP, hX⟩ := hC
        simp only [calmKnown, List.getElem?_cons_zero, List.getElem?_cons_succ, and_true, Is, Pure, Option.some.injEq, List.getD_cons_zero, List.getD_cons_succ, List.map_cons, List.map_nil] at hk
        have h29 := hk; clear hk
        simp only [h29] at hK ⊢
        have H29 := Lib.hid h29; clear h29
        go_simp
        exact hK _ _ _ rfl ⟨hP, hX⟩ (Below.refl _ _) rfl
      refine calmSteps_cons (fun u wq n hn hn2 hC hk K hK => ?_) ?_
      · obtain ⟨hP, hX⟩ := hC
        simp only [calmKnown, List.getElem?_cons_zero, List.getElem?_cons_succ, and_true, Is, Pure, Option.some.injEq, List.getD_cons_zero, List.getD_cons_succ, List.map_cons, List.map_nil] at hk
        have h30 := hk; clear hk
        simp only [h30] at hK ⊢
        have H30 := Lib.hid h30; clear h30
        go_simp
        exact hK _ _ _ rfl ⟨hP, hX⟩ (Below.refl _ _) rfl
      exact calmSteps_nil
    · intro u w7 hC hF
      obtain ⟨hb7, hX⟩ := hC
      simp only [calmFacts, Is, and_true, true_and] at hF
      obtain ⟨-, f_1, f_2, -, f_4, f_5, f_6, f_7, f_8, f_9, f_10, f_11, f_12, f_13, f_14, f_15, -, f_17, f_18, f_19, f_20, f_21, f_22, -, f_24, f_25, f_26, f_27, f_28, f_29, f_30, f_31, f_32, f_33⟩ := hF
      simp only [f_1, f_2, f_4, f_5, f_6, f_7, f_8, f_9, f_10, f_11, f_12, f_13, f_14, f_15, f_17, f_18, f_19, f_20, f_21, f_22, f_24, f_25, f_26, f_27, f_28, f_29, f_30, f_31, f_32, f_33]
      clear f_1 f_2 f_4 f_5 f_6 f_7 f_8 f_9 f_10 f_11 f_12 f_13 f_14 f_15 f_17 f_18 f_19 f_20 f_21 f_22 f_24 f_25 f_26 f_27 f_28 f_29 f_30 f_31 f_32 f_33 hX
      have K7 : Below w.heap.size w w7 := kept_call hb7 (by (repeat' (first | (with_reducible exact K6) | (with_reducible refine Below.setCell ?_ ?_ _) | (with_reducible refine Below.alloc ?_ ?_ _) | (with_reducible refine Below.drew ?_) | (with_reducible refine below_drewN ?_ _))) <;> (first | omega | (simp <;> omega)))
      have Z7 : w.heap.size ≤ w7.heap.size := K7.size
      have bX' := Blk.keep (g := gx) hb7 (by (repeat' (first | (with_reducible refine' Blk.alloc ?_ _) | (with_reducible refine' Blk.drew ?_) | (with_reducible refine' Blk.drewN ?_ _) | (with_reducible refine' Blk.put ?_ ?_) | (with_reducible refine' Blk.far ?_ ?_ _) | exact bX | exact rfl)) <;> (first | omega | (simp <;> omega)))
      (try simp only [List.setIfInBounds_toArray, List.set_cons_zero, List.set_cons_succ] at bX')
      have ht7 := TapeAt.below (by (repeat' (first | (with_reducible exact HT.out) | (with_reducible refine' TapeAt.alloc ?_ _) | (with_reducible refine' TapeAt.drew ?_) | (with_reducible refine' TapeAt.drewN ?_ _) | (with_reducible refine' TapeAt.set ?_ ?_ _))) <;> (first | omega | (simp <;> omega))) hb7
      clear HT; have T7 := ht7.lt; have HT := Lib.hid ht7; clear ht7
      clear hb7 K6
      clear bX cX fX lX eX kX; have bX := bX'; clear bX'
      obtain ⟨cX, fX, lX, eX, kX⟩ := Blk.facts bX
      go_wp2_with fail
      refine (R1.out _ _ (NumsR.newE [1, 0] (by first | rfl | (simp; done)))).mono ?_
      rintro e w8 ⟨rfl, hb8⟩
      have K8 : Below w.heap.size w w8 := kept_call hb8 (by (repeat' (first | (with_reducible exact K7) | (with_reducible refine Below.setCell ?_ ?_ _) | (with_reducible refine Below.alloc ?_ ?_ _) | (with_reducible refine Below.drew ?_) | (with_reducible refine below_drewN ?_ _))) <;> (first | omega | (simp <;> omega)))
      have Z8 : w.heap.size ≤ w8.heap.size := K8.size
      have bX' := Blk.keep (g := gx) hb8 (by (repeat' (first | (with_reducible refine' Blk.alloc ?_ _) | (with_reducible refine' Blk.drew ?_) | (with_reducible refine' Blk.drewN ?_ _) | (with_reducible refine' Blk.put ?_ ?_) | (with_reducible refine' Blk.far ?_ ?_ _) | exact bX | exact rfl)) <;> (first | omega | (simp <;> omega)))
      (try simp only [List.setIfInBounds_toArray, List.set_cons_zero, List.set_cons_succ] at bX')
      have ht8 := TapeAt.below (by (repeat' (first | (with_reducible exact HT.out) | (with_reducible refine' TapeAt.alloc ?_ _) | (with_reducible refine' TapeAt.drew ?_) | (with_reducible refine' TapeAt.drewN ?_ _) | (with_reducible refine' TapeAt.set ?_ ?_ _))) <;> (first | omega | (simp <;> omega))) hb8
      clear HT; have T8 := ht8.lt; have HT := Lib.hid ht8; clear ht8
      clear hb8 K7
      clear bX cX fX lX eX kX; have bX := bX'; clear bX'
      obtain ⟨cX, fX, lX, eX, kX⟩ := Blk.facts bX
      go_wp2_with fail
      refine (R2.out _ _ (NumsR.newE [p] (by first | rfl | (simp; done)))).mono ?_
      rintro e w9 ⟨rfl, hb9⟩
      have K9 : Below w.heap.size w w9 := kept_call hb9 (by (repeat' (first | (with_reducible exact K8) | (with_reducible refine Below.setCell ?_ ?_ _) | (with_reducible refine Below.alloc ?_ ?_ _) | (with_reducible refine Below.drew ?_) | (with_reducible refine below_drewN ?_ _))) <;> (first | omega | (simp <;> omega)))
      have Z9 : w.heap.size ≤ w9.heap.size := K9.size
      have bX' := Blk.keep (g := gx) hb9 (by (repeat' (first | (with_reducible refine' Blk.alloc ?_ _) | (with_reducible refine' Blk.drew ?_) | (with_reducible refine' Blk.drewN ?_ _) | (with_reducible refine' Blk.put ?_ ?_) | (with_reducible refine' Blk.far ?_ ?_ _) | exact bX | exact rfl)) <;> (first | omega | (simp <;> omega)))
      (try simp only [List.setIfInBounds_toArray, List.set_cons_zero, List.set_cons_succ] at bX')
      have ht9 := TapeAt.below (by (repeat' (first | (with_reducible exact HT.out) | (with_reducible refine' TapeAt.alloc ?_ _) | (with_reducible refine' TapeAt.drew ?_) | (with_reducible refine' TapeAt.drewN ?_ _) | (with_reducible refine' TapeAt.set ?_ ?_ _))) <;> (first | omega | (simp <;> omega))) hb9
      clear HT; have T9 := ht9.lt; have HT := Lib.hid ht9; clear ht9
      clear hb9 K8
      clear bX cX fX lX eX kX; have bX := bX'; clear bX'
      obtain ⟨cX, fX, lX, eX, kX⟩ := Blk.facts bX
      clear R3 R4 RR
      go_wp2_with fail
      (try simp only [ByteArray.mk_append_mk, List.append_toArray, HM2.out])
      refine (RAT.out _).mono ?_
      rintro e w10 ⟨rfl, hb10⟩
      have K10 : Below w.heap.size w w10 := kept_call hb10 (by (repeat' (first | (with_reducible exact K9) | (with_reducible refine Below.setCell ?_ ?_ _) | (with_reducible refine Below.alloc ?_ ?_ _) | (with_reducible refine Below.drew ?_) | (with_reducible refine below_drewN ?_ _))) <;> (first | omega | (simp <;> omega)))
      have Z10 : w.heap.size ≤ w10.heap.size := K10.size
      have bX' := Blk.keep (g := gx) hb10 (by (repeat' (first | (with_reducible refine' Blk.alloc ?_ _) | (with_reducible refine' Blk.drew ?_) | (with_reducible refine' Blk.drewN ?_ _) | (with_reducible refine' Blk.put ?_ ?_) | (with_reducible refine' Blk.far ?_ ?_ _) | exact bX | exact rfl)) <;> (first | omega | (simp <;> omega)))
      (try simp only [List.setIfInBounds_toArray, List.set_cons_zero, List.set_cons_succ] at bX')
      have ht10 := TapeAt.below (by (repeat' (first | (with_reducible exact HT.out) | (with_reducible refine' TapeAt.alloc ?_ _) | (with_reducible refine' TapeAt.drew ?_) | (with_reducible refine' TapeAt.drewN ?_ _) | (with_reducible refine' TapeAt.set ?_ ?_ _))) <;> (first | omega | (simp <;> omega))) hb10
      clear HT; have T10 := ht10.lt; have HT := Lib.hid ht10; clear ht10
      clear hb10 K9
      clear bX cX fX lX eX kX; have bX := bX'; clear bX'
      obtain ⟨cX, fX, lX, eX, kX⟩ := Blk.facts bX
      obtain ⟨rfl, rfl, rfl, rfl⟩ | ⟨rfl, q1, q2, q3, k5, k1, k2, k3, k4, rfl⟩ := HO.out
      · clear HO RAT
        have R5 := Lib.hid (fun W gA h => l43lineG #[101, 114, 114, 111, 114] wError rfl [20] 1 rfl (fun n hn => by simp only [List.mem_cons, List.mem_nil_iff, or_false] at hn; rcases hn with rfl; all_goals exact zI _ (by omega) (by omega)) (by decide) W gA h)
        have nL5 := lnW_len (word := wError) (ns := [20]) (fun n hn => by simp only [List.mem_cons, List.mem_nil_iff, or_false] at hn; rcases hn with rfl; all_goals exact (zI _ (by omega) (by omega)).1)
        replace nL5 : (lnW wError [20] ++ [10]).length ≤ 200 := by rw [List.length_append]; simp only [wError, List.length_cons, List.length_nil] at nL5 ⊢; omega
        have R6 := Lib.hid (fun W gA h => l43lineG #[101, 114, 114, 111, 114] wError rfl [4] 1 rfl (fun n hn => by simp only [List.mem_cons, List.mem_nil_iff, or_false] at hn; rcases hn with rfl; all_goals exact zI _ (by omega) (by omega)) (by decide) W gA h)
        have nL6 := lnW_len (word := wError) (ns := [4]) (fun n hn => by simp only [List.mem_cons, List.mem_nil_iff, or_false] at hn; rcases hn with rfl; all_goals exact (zI _ (by omega) (by omega)).1)
        replace nL6 : (lnW wError [4] ++ [10]).length ≤ 200 := by rw [List.length_append]; simp only [wError, List.length_cons, List.length_nil] at nL6 ⊢; omega
        obtain ⟨L5, hL5⟩ : ∃ a, lnW wError [20] ++ [10] = a := ⟨_, rfl⟩
        rw [hL5] at R5 ⊢ nL5
        clear hL5
        obtain ⟨L6, hL6⟩ : ∃ a, lnW wError [4] ++ [10] = a := ⟨_, rfl⟩
        rw [hL6] at R6 ⊢ nL6
        clear hL6
        go_wp2_with fail
        refine (known43_any _ (HPW.out.below (by (repeat' (first | (with_reducible exact K10) | (with_reducible refine Below.setCell ?_ ?_ _) | (with_reducible refine Below.alloc ?_ ?_ _) | (with_reducible refine Below.drew ?_) | (with_reducible refine below_drewN ?_ _))) <;> (first | omega | (simp <;> omega)))) (HML.out.below (by (repeat' (first | (with_reducible exact K10) | (with_reducible refine Below.setCell ?_ ?_ _) | (with_reducible refine Below.alloc ?_ ?_ _) | (with_reducible refine Below.drew ?_) | (with_reducible refine below_drewN ?_ _))) <;> (first | omega | (simp <;> omega))))).mono ?_
        rintro e w11 ⟨rfl, hb11⟩
        have K11 : Below w.heap.size w w11 := kept_call hb11 (by (repeat' (first | (with_reducible exact K10) | (with_reducible refine Below.setCell ?_ ?_ _) | (with_reducible refine Below.alloc ?_ ?_ _) | (with_reducible refine Below.drew ?_) | (with_reducible refine below_drewN ?_ _))) <;> (first | omega | (simp <;> omega)))
        have Z11 : w.heap.size ≤ w11.heap.size := K11.size
        have bX' := Blk.keep (g := gx) hb11 (by (repeat' (first | (with_reducible refine' Blk.alloc ?_ _) | (with_reducible refine' Blk.drew ?_) | (with_reducible refine' Blk.drewN ?_ _) | (with_reducible refine' Blk.put ?_ ?_) | (with_reducible refine' Blk.far ?_ ?_ _) | exact bX | exact rfl)) <;> (first | omega | (simp <;> omega)))
        (try simp only [List.setIfInBounds_toArray, List.set_cons_zero, List.set_cons_succ] at bX')
        have ht11 := TapeAt.below (by (repeat' (first | (with_reducible exact HT.out) | (with_reducible refine' TapeAt.alloc ?_ _) | (with_reducible refine' TapeAt.drew ?_) | (with_reducible refine' TapeAt.drewN ?_ _) | (with_reducible refine' TapeAt.set ?_ ?_ _))) <;> (first | omega | (simp <;> omega))) hb11
        clear HT; have T11 := ht11.lt; have HT := Lib.hid ht11; clear ht11
        clear hb11 K10
        clear bX cX fX lX eX kX; have bX := bX'; clear bX'
        obtain ⟨cX, fX, lX, eX, kX⟩ := Blk.facts bX
        go_wp2_with fail
        refine (R5.out _ _ (NumsR.newE [20] (by first | rfl | (simp; done)))).mono ?_
        rintro e w12 ⟨rfl, hb12⟩
        have K12 : Below w.heap.size w w12 := kept_call hb12 (by (repeat' (first | (with_reducible exact K11) | (with_reducible refine Below.setCell ?_ ?_ _) | (with_reducible refine Below.alloc ?_ ?_ _) | (with_reducible refine Below.drew ?_) | (with_reducible refine below_drewN ?_ _))) <;> (first | omega | (simp <;> omega)))
        have Z12 : w.heap.size ≤ w12.heap.size := K12.size
        have bX' := Blk.keep (g := gx) hb12 (by (repeat' (first | (with_reducible refine' Blk.alloc ?_ _) | (with_reducible refine' Blk.drew ?_) | (with_reducible refine' Blk.drewN ?_ _) | (with_reducible refine' Blk.put ?_ ?_) | (with_reducible refine' Blk.far ?_ ?_ _) | exact bX | exact rfl)) <;> (first | omega | (simp <;> omega)))
        (try simp only [List.setIfInBounds_toArray, List.set_cons_zero, List.set_cons_succ] at bX')
        have ht12 := TapeAt.below (by (repeat' (first | (with_reducible exact HT.out) | (with_reducible refine' TapeAt.alloc ?_ _) | (with_reducible refine' TapeAt.drew ?_) | (with_reducible refine' TapeAt.drewN ?_ _) | (with_reducible refine' TapeAt.set ?_ ?_ _))) <;> (first | omega | (simp <;> omega))) hb12
        clear HT; have T12 := ht12.lt; have HT := Lib.hid ht12; clear ht12
        clear hb12 K11
        clear bX cX fX lX eX kX; have bX := bX'; clear bX'
        obtain ⟨cX, fX, lX, eX, kX⟩ := Blk.facts bX
        go_wp2_with fail
        refine (R6.out _ _ (NumsR.newE [4] (by first | rfl | (simp; done)))).mono ?_
        rintro e w13 ⟨rfl, hb13⟩
        have K13 : Below w.heap.size w w13 := kept_call hb13 (by (repeat' (first | (with_reducible exact K12) | (with_reducible refine Below.setCell ?_ ?_ _) | (with_reducible refine Below.alloc ?_ ?_ _) | (with_reducible refine Below.drew ?_) | (with_reducible refine below_drewN ?_ _))) <;> (first | omega | (simp <;> omega)))
        have Z13 : w.heap.size ≤ w13.heap.size := K13.size
        have bX' := Blk.keep (g := gx) hb13 (by (repeat' (first | (with_reducible refine' Blk.alloc ?_ _) | (with_reducible refine' Blk.drew ?_) | (with_reducible refine' Blk.drewN ?_ _) | (with_reducible refine' Blk.put ?_ ?_) | (with_reducible refine' Blk.far ?_ ?_ _) | exact bX | exact rfl)) <;> (first | omega | (simp <;> omega)))
        (try simp only [List.setIfInBounds_toArray, List.set_cons_zero, List.set_cons_succ] at bX')
        have ht13 := TapeAt.below (by (repeat' (first | (with_reducible exact HT.out) | (with_reducible refine' TapeAt.alloc ?_ _) | (with_reducible refine' TapeAt.drew ?_) | (with_reducible refine' TapeAt.drewN ?_ _) | (with_reducible refine' TapeAt.set ?_ ?_ _))) <;> (first | omega | (simp <;> omega))) hb13
        clear HT; have T13 := ht13.lt; have HT := Lib.hid ht13; clear ht13
        clear hb13 K12
        clear bX cX fX lX eX kX; have bX := bX'; clear bX'
        obtain ⟨cX, fX, lX, eX, kX⟩ := Blk.facts bX
        go_wp2
        go_ret
        exact ⟨by simp [ByteArray.mk_append_mk], (by (repeat' (first | (with_reducible exact K13) | (with_reducible refine Below.setCell ?_ ?_ _) | (with_reducible refine Below.alloc ?_ ?_ _) | (with_reducible refine Below.drew ?_) | (with_reducible refine below_drewN ?_ _))) <;> (first | omega | (simp <;> omega)))⟩
      · clear HO RAT
        have R5 := Lib.hid (fun W gA h => l43lineG #[108, 101, 97, 114, 110, 116] wLearnt rfl [0, lo, hi] 3 rfl (fun n hn => by simp only [List.mem_cons, List.mem_nil_iff, or_false] at hn; rcases hn with rfl | rfl | rfl; all_goals exact zI _ (by omega) (by omega)) (by decide) W gA h)
        have nL5 := lnW_len (word := wLearnt) (ns := [0, lo, hi]) (fun n hn => by simp only [List.mem_cons, List.mem_nil_iff, or_false] at hn; rcases hn with rfl | rfl | rfl; all_goals exact (zI _ (by omega) (by omega)).1)
        replace nL5 : (lnW wLearnt [0, lo, hi] ++ [10]).length ≤ 200 := by rw [List.length_append]; simp only [wLearnt, List.length_cons, List.length_nil] at nL5 ⊢; omega
        have R6 := Lib.hid (fun W gA h => l43lineG #[115, 112, 97, 110] wSpan rfl [x, y] 2 rfl (fun n hn => by simp only [List.mem_cons, List.mem_nil_iff, or_false] at hn; rcases hn with rfl | rfl; all_goals exact zI _ (by omega) (by omega)) (by decide) W gA h)
        have nL6 := lnW_len (word := wSpan) (ns := [x, y]) (fun n hn => by simp only [List.mem_cons, List.mem_nil_iff, or_false] at hn; rcases hn with rfl | rfl; all_goals exact (zI _ (by omega) (by omega)).1)
        replace nL6 : (lnW wSpan [x, y] ++ [10]).length ≤ 200 := by rw [List.length_append]; simp only [wSpan, List.length_cons, List.length_nil] at nL6 ⊢; omega
        obtain ⟨L5, hL5⟩ : ∃ a, lnW wLearnt [0, lo, hi] ++ [10] = a := ⟨_, rfl⟩
        rw [hL5] at R5 ⊢ nL5
        clear hL5
        obtain ⟨L6, hL6⟩ : ∃ a, lnW wSpan [x, y] ++ [10] = a := ⟨_, rfl⟩
        rw [hL6] at R6 ⊢ nL6
        clear hL6
        obtain ⟨M5, hM5⟩ : ∃ a, M2 ++ L5 = a := ⟨_, rfl⟩
        rw [hM5]
        obtain ⟨M6, hM6⟩ : ∃ a, M5 ++ L6 = a := ⟨_, rfl⟩
        rw [hM6]
        have nM5 : M5.length ≤ 600 := by rw [← hM5, List.length_append]; omega
        have nM6 : M6.length ≤ 800 := by rw [← hM6, List.length_append]; omega
        have HM5 := Lib.hid hM5; have HM6 := Lib.hid hM6; clear hM5 hM6
        have RBG := Lib.hid (fun (W : World) => begV_ok k5 ▸ rbegin_any t4 lo hi p W)
        have RNW := Lib.hid (fun (W : World) => k1 ▸ rnow_any t4 lo hi p 0 0 u9 W)
        unfold V3 at RNW
        dsimp only at RNW
        skip
        go_wp2_with fail
        refine (RBG.out _).mono ?_
        rintro e w11 ⟨rfl, hb11⟩
        have K11 : Below w.heap.size w w11 := kept_call hb11 (by (repeat' (first | (with_reducible exact K10) | (with_reducible refine Below.setCell ?_ ?_ _) | (with_reducible refine Below.alloc ?_ ?_ _) | (with_reducible refine Below.drew ?_) | (with_reducible refine below_drewN ?_ _))) <;> (first | omega | (simp <;> omega)))
        have Z11 : w.heap.size ≤ w11.heap.size := K11.size
        have bX' := Blk.keep (g := gx) hb11 (by (repeat' (first | (with_reducible refine' Blk.alloc ?_ _) | (with_reducible refine' Blk.drew ?_) | (with_reducible refine' Blk.drewN ?_ _) | (with_reducible refine' Blk.put ?_ ?_) | (with_reducible refine' Blk.far ?_ ?_ _) | exact bX | exact rfl)) <;> (first | omega | (simp <;> omega)))
        (try simp only [List.setIfInBounds_toArray, List.set_cons_zero, List.set_cons_succ] at bX')
        have b11_0 := Blk.keep (g := w10.heap.size) hb11 (by (repeat' (first | ((with_reducible refine' Blk.newE ?_); first | rfl | (simp; done)) | (with_reducible refine' Blk.alloc ?_ _) | (with_reducible refine' Blk.drew ?_) | (with_reducible refine' Blk.drewN ?_ _) | (with_reducible refine' Blk.put ?_ ?_) | (with_reducible refine' Blk.far ?_ ?_ _) | exact rfl)) <;> (first | omega | (simp <;> omega)))
        (try simp only [List.setIfInBounds_toArray, List.set_cons_zero, List.set_cons_succ] at b11_0)
        have ht11 := TapeAt.below (by (repeat' (first | (with_reducible exact HT.out) | (with_reducible refine' TapeAt.alloc ?_ _) | (with_reducible refine' TapeAt.drew ?_) | (with_reducible refine' TapeAt.drewN ?_ _) | (with_reducible refine' TapeAt.set ?_ ?_ _))) <;> (first | omega | (simp <;> omega))) hb11
        clear HT; have T11 := ht11.lt; have HT := Lib.hid ht11; clear ht11
        clear hb11 K10
        clear bX cX fX lX eX kX; have bX := bX'; clear bX'
        obtain ⟨cX, fX, lX, eX, kX⟩ := Blk.facts bX
        obtain ⟨c11_0, f11_0, l11_0, e11_0, k11_0⟩ := Blk.facts b11_0
        have o11_0 := l11_0
        go_wp2_with fail
        refine (RNW.out _).mono ?_
        rintro e w12 ⟨rfl, hb12⟩
        have K12 : Below w.heap.size w w12 := kept_call hb12 (by (repeat' (first | (with_reducible exact K11) | (with_reducible refine Below.setCell ?_ ?_ _) | (with_reducible refine Below.alloc ?_ ?_ _) | (with_reducible refine Below.drew ?_) | (with_reducible refine below_drewN ?_ _))) <;> (first | omega | (simp <;> omega)))
        have Z12 : w.heap.size ≤ w12.heap.size := K12.size
        have bX' := Blk.keep (g := gx) hb12 (by (repeat' (first | (with_reducible refine' Blk.alloc ?_ _) | (with_reducible refine' Blk.drew ?_) | (with_reducible refine' Blk.drewN ?_ _) | (with_reducible refine' Blk.put ?_ ?_) | (with_reducible refine' Blk.far ?_ ?_ _) | exact bX | exact rfl)) <;> (first | omega | (simp <;> omega)))
        (try simp only [List.setIfInBounds_toArray, List.set_cons_zero, List.set_cons_succ] at bX')
        have b11_0' := Blk.keep (g := w10.heap.size) hb12 (by (repeat' (first | (with_reducible refine' Blk.alloc ?_ _) | (with_reducible refine' Blk.drew ?_) | (with_reducible refine' Blk.drewN ?_ _) | (with_reducible refine' Blk.put ?_ ?_) | (with_reducible refine' Blk.far ?_ ?_ _) | exact b11_0 | exact rfl)) <;> (first | omega | (simp <;> omega)))
        (try simp only [List.setIfInBounds_toArray, List.set_cons_zero, List.set_cons_succ] at b11_0')
        have b12_0 := Blk.keep (g := w11.heap.size) hb12 (by (repeat' (first | ((with_reducible refine' Blk.newE ?_); first | rfl | (simp; done)) | (with_reducible refine' Blk.alloc ?_ _) | (with_reducible refine' Blk.drew ?_) | (with_reducible refine' Blk.drewN ?_ _) | (with_reducible refine' Blk.put ?_ ?_) | (with_reducible refine' Blk.far ?_ ?_ _) | exact rfl)) <;> (first | omega | (simp <;> omega)))
        (try simp only [List.setIfInBounds_toArray, List.set_cons_zero, List.set_cons_succ] at b12_0)
        have ht12 := TapeAt.below (by (repeat' (first | (with_reducible exact HT.out) | (with_reducible refine' TapeAt.alloc ?_ _) | (with_reducible refine' TapeAt.drew ?_) | (with_reducible refine' TapeAt.drewN ?_ _) | (with_reducible refine' TapeAt.set ?_ ?_ _))) <;> (first | omega | (simp <;> omega))) hb12
        clear HT; have T12 := ht12.lt; have HT := Lib.hid ht12; clear ht12
        clear hb12 K11
        clear bX cX fX lX eX kX; have bX := bX'; clear bX'
        clear b11_0 c11_0 f11_0 l11_0 e11_0 k11_0; have b11_0 := b11_0'; clear b11_0'
        obtain ⟨cX, fX, lX, eX, kX⟩ := Blk.facts bX
        obtain ⟨c11_0, f11_0, l11_0, e11_0, k11_0⟩ := Blk.facts b11_0
        obtain ⟨c12_0, f12_0, l12_0, e12_0, k12_0⟩ := Blk.facts b12_0
        have o12_0 := l12_0
        go_upto_region 13 with fail
        refine' wp_region_calm (by kernel_rfl) (fun _ _ w' => Below w12.heap.size w12 w' ∧ Blk w' (w10.heap.size) 40 #[.int .i64 lo, .int .i64 hi] ∧ Blk w' (w12.heap.size) 40 #[.int .i64 x, .int .i64 y]) (fun a b => Below a.heap.size a b) [(Is _), (Is _), (Is _), (Is _), (Is _), (Is _), (Is _), (Is _), (Is _), (Is _), (Is _), (Is _), (SliceN [] 3 3 #[.int .i64 0, .int .i64 lo, .int .i64 hi]), (Is _), (Is (.string ⟨M5.toArray⟩)), (Is _), (Is _), (Is _), (Is _), (SliceN [] 3 2 #[.int .i64 x, .int .i64 y]), (Is _), (Is (.string ⟨M6.toArray⟩)), (Is (.bool true)), (Is _), (Is _)] [[], [0], [1], [2, 1], [1, 3], [4], [5], [5], [5], [8, 5], [5], [10, 5], [9, 11, 5], [12, 5], [7, 13, 5], [5], [15, 5], [5], [17, 5], [16, 18, 5], [19, 5], [14, 20, 5], [6, 21, 5], [5, 22], [23]] [] [] rfl (by kernel_rfl) (fun u => by (simp only [calmPut, Act.put, List.setIfInBounds_toArray, List.set_cons_zero, List.set_cons_succ, Nat.zero_add, Nat.reduceAdd]; rfl)) ?_ (calmKeep_cons keep_is' (calmKeep_cons keep_is' (calmKeep_cons keep_is' (calmKeep_cons keep_is' (calmKeep_cons keep_is' (calmKeep_cons keep_is' (calmKeep_cons keep_is' (calmKeep_cons keep_is' (calmKeep_cons keep_is' (calmKeep_cons keep_is' (calmKeep_cons keep_is' (calmKeep_cons keep_is' (calmKeep_cons keep_sliceK (calmKeep_cons keep_is' (calmKeep_cons keep_is' (calmKeep_cons keep_is' (calmKeep_cons keep_is' (calmKeep_cons keep_is' (calmKeep_cons keep_is' (calmKeep_cons keep_sliceK (calmKeep_cons keep_is' (calmKeep_cons keep_is' (calmKeep_cons keep_is' (calmKeep_cons keep_is' (calmKeep_cons keep_is' (calmKeep_nil)))))))))))))))))))))))))) ?_ ?_
        · intro _
          exact ⟨(by (repeat' (first | (with_reducible exact Below.refl _ _) | (with_reducible refine Below.alloc ?_ ?_ _) | (with_reducible refine Below.drew ?_))) <;> (first | omega | (simp <;> omega))), (by (repeat' (first | (with_reducible refine' Blk.alloc ?_ _) | (with_reducible refine' Blk.drew ?_) | (with_reducible refine' Blk.drewN ?_ _) | (with_reducible refine' Blk.put ?_ ?_) | (with_reducible refine' Blk.far ?_ ?_ _) | exact b11_0 | exact rfl)) <;> (first | omega | (simp <;> omega))), (by (repeat' (first | ((with_reducible refine' Blk.newE ?_); first | rfl | (simp; done)) | (with_reducible refine' Blk.alloc ?_ _) | (with_reducible refine' Blk.drew ?_) | (with_reducible refine' Blk.drewN ?_ _) | (with_reducible refine' Blk.put ?_ ?_) | (with_reducible refine' Blk.far ?_ ?_ _) | exact rfl)) <;> (first | omega | (simp <;> omega)))⟩
        rotate_left 20
        · skip
          refine calmSteps_cons (fun u wq n hn hn2 hC hk K hK => ?_) ?_
          · obtain ⟨hP, hS, hN⟩ := hC
            clear hk
            go_wp2_with fail
            refine (known43_any _ (HPW.out.below (by exact kept_call hP K12)) (HML.out.below (by exact kept_call hP K12))).mono ?_
            rintro e w9 ⟨rfl, hbl⟩
            exact hK _ _ _ rfl ⟨kept_call hbl hP, Blk.keep hbl hS, Blk.keep hbl hN⟩ hbl rfl
          refine calmSteps_cons (fun u wq n hn hn2 hC hk K hK => ?_) ?_
          · obtain ⟨hP, hS, hN⟩ := hC
            simp only [calmKnown, List.getElem?_cons_zero, List.getElem?_cons_succ, and_true, Is, Pure, Option.some.injEq, List.getD_cons_zero, List.getD_cons_succ, List.map_cons, List.map_nil] at hk
            have h0 := hk; clear hk
            simp only [h0] at hK ⊢
            have H0 := Lib.hid h0; clear h0
            go_simp
            exact hK _ _ _ rfl ⟨hP, hS, hN⟩ (Below.refl _ _) rfl
          refine calmSteps_cons (fun u wq n hn hn2 hC hk K hK => ?_) ?_
          · obtain ⟨hP, hS, hN⟩ := hC
            simp only [calmKnown, List.getElem?_cons_zero, List.getElem?_cons_succ, and_true, Is, Pure, Option.some.injEq, List.getD_cons_zero, List.getD_cons_succ, List.map_cons, List.map_nil] at hk
            have h1 := hk; clear hk
            simp only [h1] at hK ⊢
            have H1 := Lib.hid h1; clear h1
            go_simp
            exact hK _ _ _ rfl ⟨hP, hS, hN⟩ (Below.refl _ _) rfl
          refine calmSteps_cons (fun u wq n hn hn2 hC hk K hK => ?_) ?_
          · obtain ⟨hP, hS, hN⟩ := hC
            simp only [calmKnown, List.getElem?_cons_zero, List.getElem?_cons_succ, and_true, Is, Pure, Option.some.injEq, List.getD_cons_zero, List.getD_cons_succ, List.map_cons, List.map_nil] at hk
            obtain ⟨h2, h1⟩ := hk
            simp only [h2, h1] at hK ⊢
            have H2 := Lib.hid h2; clear h2; have H1 := Lib.hid h1; clear h1
            go_simp
            exact hK _ _ _ rfl ⟨hP, hS, hN⟩ (Below.refl _ _) rfl
          refine calmSteps_cons (fun u wq n hn hn2 hC hk K hK => ?_) ?_
          · obtain ⟨hP, hS, hN⟩ := hC
            simp only [calmKnown, List.getElem?_cons_zero, List.getElem?_cons_succ, and_true, Is, Pure, Option.some.injEq, List.getD_cons_zero, List.getD_cons_succ, List.map_cons, List.map_nil] at hk
            obtain ⟨h1, h3⟩ := hk
            simp only [h1, h3] at hK ⊢
            have H1 := Lib.hid h1; clear h1; have H3 := Lib.hid h3; clear h3
            go_simp
            exact hK _ _ _ rfl ⟨hP, hS, hN⟩ (Below.refl _ _) rfl
          refine calmSteps_cons (fun u wq n hn hn2 hC hk K hK => ?_) ?_
          · obtain ⟨hP, hS, hN⟩ := hC
            simp only [calmKnown, List.getElem?_cons_zero, List.getElem?_cons_succ, and_true, Is, Pure, Option.some.injEq, List.getD_cons_zero, List.getD_cons_succ, List.map_cons, List.map_nil] at hk
            have h4 := hk; clear hk
            simp only [h4] at hK ⊢
            have H4 := Lib.hid h4; clear h4
            go_simp
            exact hK _ _ _ rfl ⟨hP, hS, hN⟩ (Below.refl _ _) rfl
          refine calmSteps_cons (fun u wq n hn hn2 hC hk K hK => ?_) ?_
          · obtain ⟨hP, hS, hN⟩ := hC
            simp only [calmKnown, List.getElem?_cons_zero, List.getElem?_cons_succ, and_true, Is, Pure, Option.some.injEq, List.getD_cons_zero, List.getD_cons_succ, List.map_cons, List.map_nil] at hk
            have h5 := hk; clear hk
            simp only [h5] at hK ⊢
            have H5 := Lib.hid h5; clear h5
            go_simp
            exact hK _ _ _ rfl ⟨hP, hS, hN⟩ (Below.refl _ _) rfl
          refine calmSteps_cons (fun u wq n hn hn2 hC hk K hK => ?_) ?_
          · obtain ⟨hP, hS, hN⟩ := hC
            simp only [calmKnown, List.getElem?_cons_zero, List.getElem?_cons_succ, and_true, Is, Pure, Option.some.injEq, List.getD_cons_zero, List.getD_cons_succ, List.map_cons, List.map_nil] at hk
            have h5 := hk; clear hk
            simp only [h5] at hK ⊢
            have H5 := Lib.hid h5; clear h5
            go_simp
            exact hK _ _ _ rfl ⟨hP, hS, hN⟩ (Below.refl _ _) rfl
          refine calmSteps_cons (fun u wq n hn hn2 hC hk K hK => ?_) ?_
          · obtain ⟨hP, hS, hN⟩ := hC
            simp only [calmKnown, List.getElem?_cons_zero, List.getElem?_cons_succ, and_true, Is, Pure, Option.some.injEq, List.getD_cons_zero, List.getD_cons_succ, List.map_cons, List.map_nil] at hk
            have h5 := hk; clear hk
            simp only [h5] at hK ⊢
            have H5 := Lib.hid h5; clear h5
            go_simp
            exact hK _ _ _ rfl ⟨hP, hS, hN⟩ (Below.refl _ _) rfl
          refine calmSteps_cons (fun u wq n hn hn2 hC hk K hK => ?_) ?_
          · obtain ⟨hP, hS, hN⟩ := hC
            simp only [calmKnown, List.getElem?_cons_zero, List.getElem?_cons_succ, and_true, Is, Pure, Option.some.injEq, List.getD_cons_zero, List.getD_cons_succ, List.map_cons, List.map_nil] at hk
            obtain ⟨h8, h5⟩ := hk
            simp only [h8, h5] at hK ⊢
            have H8 := Lib.hid h8; clear h8; have H5 := Lib.hid h5; clear h5
            have cS := hS.cell; have lS := hS.lt; have cN := hN.cell; have lN := hN.lt
            go_simp
            exact hK _ _ _ rfl ⟨hP, hS, hN⟩ (Below.refl _ _) rfl
          refine calmSteps_cons (fun u wq n hn hn2 hC hk K hK => ?_) ?_
          · obtain ⟨hP, hS, hN⟩ := hC
            simp only [calmKnown, List.getElem?_cons_zero, List.getElem?_cons_succ, and_true, Is, Pure, Option.some.injEq, List.getD_cons_zero, List.getD_cons_succ, List.map_cons, List.map_nil] at hk
            have h5 := hk; clear hk
            simp only [h5] at hK ⊢
            have H5 := Lib.hid h5; clear h5
            go_simp
            exact hK _ _ _ rfl ⟨hP, hS, hN⟩ (Below.refl _ _) rfl
          refine calmSteps_cons (fun u wq n hn hn2 hC hk K hK => ?_) ?_
          · obtain ⟨hP, hS, hN⟩ := hC
            simp only [calmKnown, List.getElem?_cons_zero, List.getElem?_cons_succ, and_true, Is, Pure, Option.some.injEq, List.getD_cons_zero, List.getD_cons_succ, List.map_cons, List.map_nil] at hk
            obtain ⟨h10, h5⟩ := hk
            simp only [h10, h5] at hK ⊢
            have H10 := Lib.hid h10; clear h10; have H5 := Lib.hid h5; clear h5
            have cS := hS.cell; have lS := hS.lt; have cN := hN.cell; have lN := hN.lt
            go_simp
            exact hK _ _ _ rfl ⟨hP, hS, hN⟩ (Below.refl _ _) rfl
          refine calmSteps_cons (fun u wq n hn hn2 hC hk K hK => ?_) ?_
          · obtain ⟨hP, hS, hN⟩ := hC
            simp only [calmKnown, List.getElem?_cons_zero, List.getElem?_cons_succ, and_true, Is, Pure, Option.some.injEq, List.getD_cons_zero, List.getD_cons_succ, List.map_cons, List.map_nil] at hk
            obtain ⟨h9, h11, h5⟩ := hk
            simp only [h9, h11, h5] at hK ⊢
            have H9 := Lib.hid h9; clear h9; have H11 := Lib.hid h11; clear h11; have H5 := Lib.hid h5; clear h5
            go_simp
            exact hK _ _ _ rfl ⟨kept_call (below_new _ _) hP, hS.alloc _, hN.alloc _⟩ (below_new _ _) ⟨_, rfl, (by simp), Blk.new _ _ _⟩
          refine calmSteps_cons (fun u wq n hn hn2 hC hk K hK => ?_) ?_
          · obtain ⟨hP, hS, hN⟩ := hC
            simp only [calmKnown, List.getElem?_cons_zero, List.getElem?_cons_succ, and_true, Is, Pure, Option.some.injEq, List.getD_cons_zero, List.getD_cons_succ, List.map_cons, List.map_nil] at hk
            obtain ⟨⟨g12, h12, -, q12⟩, h5⟩ := hk
            simp only [h12, h5] at hK ⊢
            have H12 := Lib.hid h12; clear h12; have H5 := Lib.hid h5; clear h5
            go_wp2_with fail
            refine (R5.out _ _ (NumsR.of (zs := [0, lo, hi]) q12)).mono ?_
            rintro e w9 ⟨rfl, hbl⟩
            exact hK _ _ _ rfl ⟨kept_call hbl hP, Blk.keep hbl hS, Blk.keep hbl hN⟩ hbl rfl
          refine calmSteps_cons (fun u wq n hn hn2 hC hk K hK => ?_) ?_
          · obtain ⟨hP, hS, hN⟩ := hC
            simp only [calmKnown, List.getElem?_cons_zero, List.getElem?_cons_succ, and_true, Is, Pure, Option.some.injEq, List.getD_cons_zero, List.getD_cons_succ, List.map_cons, List.map_nil] at hk
            obtain ⟨h7, h13, h5⟩ := hk
            simp only [h7, h13, h5] at hK ⊢
            have H7 := Lib.hid h7; clear h7; have H13 := Lib.hid h13; clear h13; have H5 := Lib.hid h5; clear h5
            have ea : ({ data := M2.toArray } : ByteArray) ++ { data := L5.toArray } = { data := M5.toArray } := by rw [← HM5.out]; simp [ByteArray.mk_append_mk]
            go_simp
            (try simp only [ea])
            (try simp only [HM5.out])
            rw [if_neg (by omega), Oper.upon_value]
            exact hK _ _ _ rfl ⟨hP, hS, hN⟩ (Below.refl _ _) rfl
          refine calmSteps_cons (fun u wq n hn hn2 hC hk K hK => ?_) ?_
          · obtain ⟨hP, hS, hN⟩ := hC
            simp only [calmKnown, List.getElem?_cons_zero, List.getElem?_cons_succ, and_true, Is, Pure, Option.some.injEq, List.getD_cons_zero, List.getD_cons_succ, List.map_cons, List.map_nil] at hk
            have h5 := hk; clear hk
            simp only [h5] at hK ⊢
            have H5 := Lib.hid h5; clear h5
            go_simp
            exact hK _ _ _ rfl ⟨hP, hS, hN⟩ (Below.refl _ _) rfl
          refine calmSteps_cons (fun u wq n hn hn2 hC hk K hK => ?_) ?_
          · obtain ⟨hP, hS, hN⟩ := hC
            simp only [calmKnown, List.getElem?_cons_zero, List.getElem?_cons_succ, and_true, Is, Pure, Option.some.injEq, List.getD_cons_zero, List.getD_cons_succ, List.map_cons, List.map_nil] at hk
            obtain ⟨h15, h5⟩ := hk
            simp only [h15, h5] at hK ⊢
            have H15 := Lib.hid h15; clear h15; have H5 := Lib.hid h5; clear h5
            have cS := hS.cell; have lS := hS.lt; have cN := hN.cell; have lN := hN.lt
            go_simp
            exact hK _ _ _ rfl ⟨hP, hS, hN⟩ (Below.refl _ _) rfl
          refine calmSteps_cons (fun u wq n hn hn2 hC hk K hK => ?_) ?_
          · obtain ⟨hP, hS, hN⟩ := hC
            simp only [calmKnown, List.getElem?_cons_zero, List.getElem?_cons_succ, and_true, Is, Pure, Option.some.injEq, List.getD_cons_zero, List.getD_cons_succ, List.map_cons, List.map_nil] at hk
            have h5 := hk; clear hk
            simp only [h5] at hK ⊢
            have H5 := Lib.hid h5; clear h5
            go_simp
            exact hK _ _ _ rfl ⟨hP, hS, hN⟩ (Below.refl _ _) rfl
          refine calmSteps_cons (fun u wq n hn hn2 hC hk K hK => ?_) ?_
          · obtain ⟨hP, hS, hN⟩ := hC
            simp only [calmKnown, List.getElem?_cons_zero, List.getElem?_cons_succ, and_true, Is, Pure, Option.some.injEq, List.getD_cons_zero, List.getD_cons_succ, List.map_cons, List.map_nil] at hk
            obtain ⟨h17, h5⟩ := hk
            simp only [h17, h5] at hK ⊢
            have H17 := Lib.hid h17; clear h17; have H5 := Lib.hid h5; clear h5
            have cS := hS.cell; have lS := hS.lt; have cN := hN.cell; have lN := hN.lt
            go_simp
            exact hK _ _ _ rfl ⟨hP, hS, hN⟩ (Below.refl _ _) rfl
          refine calmSteps_cons (fun u wq n hn hn2 hC hk K hK => ?_) ?_
          · obtain ⟨hP, hS, hN⟩ := hC
            simp only [calmKnown, List.getElem?_cons_zero, List.getElem?_cons_succ, and_true, Is, Pure, Option.some.injEq, List.getD_cons_zero, List.getD_cons_succ, List.map_cons, List.map_nil] at hk
            obtain ⟨h16, h18, h5⟩ := hk
            simp only [h16, h18, h5] at hK ⊢
            have H16 := Lib.hid h16; clear h16; have H18 := Lib.hid h18; clear h18; have H5 := Lib.hid h5; clear h5
            go_simp
            exact hK _ _ _ rfl ⟨kept_call (below_new _ _) hP, hS.alloc _, hN.alloc _⟩ (below_new _ _) ⟨_, rfl, (by simp), Blk.new _ _ _⟩
          refine calmSteps_cons (fun u wq n hn hn2 hC hk K hK => ?_) ?_
          · obtain ⟨hP, hS, hN⟩ := hC
            simp only [calmKnown, List.getElem?_cons_zero, List.getElem?_cons_succ, and_true, Is, Pure, Option.some.injEq, List.getD_cons_zero, List.getD_cons_succ, List.map_cons, List.map_nil] at hk
            obtain ⟨⟨g19, h19, -, q19⟩, h5⟩ := hk
            simp only [h19, h5] at hK ⊢
            have H19 := Lib.hid h19; clear h19; have H5 := Lib.hid h5; clear h5
            go_wp2_with fail
            refine (R6.out _ _ (NumsR.of (zs := [x, y]) q19)).mono ?_
            rintro e w9 ⟨rfl, hbl⟩
            exact hK _ _ _ rfl ⟨kept_call hbl hP, Blk.keep hbl hS, Blk.keep hbl hN⟩ hbl rfl
          refine calmSteps_cons (fun u wq n hn hn2 hC hk K hK => ?_) ?_
          · obtain ⟨hP, hS, hN⟩ := hC
            simp only [calmKnown, List.getElem?_cons_zero, List.getElem?_cons_succ, and_true, Is, Pure, Option.some.injEq, List.getD_cons_zero, List.getD_cons_succ, List.map_cons, List.map_nil] at hk
            obtain ⟨h14, h20, h5⟩ := hk
            simp only [h14, h20, h5] at hK ⊢
            have H14 := Lib.hid h14; clear h14; have H20 := Lib.hid h20; clear h20; have H5 := Lib.hid h5; clear h5
            have ea : ({ data := M5.toArray } : ByteArray) ++ { data := L6.toArray } = { data := M6.toArray } := by rw [← HM6.out]; simp [ByteArray.mk_append_mk]
            go_simp
            (try simp only [ea])
            (try simp only [HM6.out])
            rw [if_neg (by omega), Oper.upon_value]
            exact hK _ _ _ rfl ⟨hP, hS, hN⟩ (Below.refl _ _) rfl
          refine calmSteps_cons (fun u wq n hn hn2 hC hk K hK => ?_) ?_
          · obtain ⟨hP, hS, hN⟩ := hC
            simp only [calmKnown, List.getElem?_cons_zero, List.getElem?_cons_succ, and_true, Is, Pure, Option.some.injEq, List.getD_cons_zero, List.getD_cons_succ, List.map_cons, List.map_nil] at hk
            obtain ⟨h6, h21, h5⟩ := hk
            simp only [h6, h21, h5] at hK ⊢
            have H6 := Lib.hid h6; clear h6; have H21 := Lib.hid h21; clear h21; have H5 := Lib.hid h5; clear h5
            go_simp
            exact hK _ _ _ rfl ⟨hP, hS, hN⟩ (Below.refl _ _) rfl
          refine calmSteps_cons (fun u wq n hn hn2 hC hk K hK => ?_) ?_
          · obtain ⟨hP, hS, hN⟩ := hC
            simp only [calmKnown, List.getElem?_cons_zero, List.getElem?_cons_succ, and_true, Is, Pure, Option.some.injEq, List.getD_cons_zero, List.getD_cons_succ, List.map_cons, List.map_nil] at hk
            obtain ⟨h5, h22⟩ := hk
            simp only [h5, h22] at hK ⊢
            have H5 := Lib.hid h5; clear h5; have H22 := Lib.hid h22; clear h22
            go_simp
            exact hK _ _ _ rfl ⟨hP, hS, hN⟩ (Below.refl _ _) rfl
          refine calmSteps_cons (fun u wq n hn hn2 hC hk K hK => ?_) ?_
          · obtain ⟨hP, hS, hN⟩ := hC
            simp only [calmKnown, List.getElem?_cons_zero, List.getElem?_cons_succ, and_true, Is, Pure, Option.some.injEq, List.getD_cons_zero, List.getD_cons_succ, List.map_cons, List.map_nil] at hk
            have h23 := hk; clear hk
            simp only [h23] at hK ⊢
            have H23 := Lib.hid h23; clear h23
            go_simp
            exact hK _ _ _ rfl ⟨hP, hS, hN⟩ (Below.refl _ _) rfl
          exact calmSteps_nil
        · intro u w20 hC hF
          obtain ⟨hP, -, -⟩ := hC
          simp only [calmFacts, Is, and_true, true_and] at hF
          obtain ⟨f_0, f_1, f_2, f_3, f_4, f_5, f_6, f_7, f_8, f_9, f_10, f_11, -, f_13, f_14, f_15, f_16, f_17, f_18, -, f_20, f_21, f_22, f_23, f_24⟩ := hF
          simp only [f_24]
          go_wp2
          go_ret
          exact ⟨rfl, kept_call hP K12⟩
end Go.Proofs.YtiinmhfolfgobaaGreatDoor
