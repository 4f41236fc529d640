/- The walk of the law TopScripts. -/
import Derived.Test.YtiinmhfolfgobaaGreatDoorAwake
import Derived.Test.YtiinmhfolfgobaaGreatDoorC37
import Derived.Test.YtiinmhfolfgobaaGreatDoorJ36
import Derived.Test.YtiinmhfolfgobaaGreatDoorJ40
import Derived.Test.YtiinmhfolfgobaaGreatDoorJ8
import Derived.Test.YtiinmhfolfgobaaGreatDoorJ31
import Derived.Test.YtiinmhfolfgobaaGreatDoorJ12
import Derived.Test.YtiinmhfolfgobaaGreatDoorTsP
import Derived.Test.YtiinmhfolfgobaaGreatDoorJ45
namespace Go.Proofs.YtiinmhfolfgobaaGreatDoor
open Go.RowKit Go.Shelf Go.Sort Go.Lib
set_option linter.unusedSimpArgs false
set_option linter.unusedVariables false

theorem keep_sliceK {t : TypeId} {ns : Nat} {cs : Array Value} : ∀ (d : List Value) (v : Value) (w w' : World), Below w.heap.size w w' → SliceN [] t ns cs d v w → SliceN [] t ns cs d v w' := fun _ _ _ _ h ⟨g, e, hn, hb⟩ => ⟨g, e, hn, Blk.keep h hb⟩
def TsRel (w : World) (s : Sch) (nx gs gk gB : Nat) (SB : Array Value) (G : Nat) (tx tv uv i : Value) (wr : World) : Prop := ∃ (q : Nat) (m : Sim) (ls : List (List UInt8)) (cs cb : Array Value), q ≤ nx ∧ G = nx - q ∧ i = .int .i64 q ∧ TsN s q m ls ∧ tx = .string ⟨(lnsT ls).toArray⟩ ∧ tv = .int .i64 m.t ∧ uv = .int .i64 m.u ∧ Blk wr gs 4 cs ∧ Blk wr gk 44 cb ∧ KsAt cs cb m.by_ ∧ Blk wr gB 51 SB ∧ w.heap.size + 2 ≤ wr.heap.size ∧ Below w.heap.size w wr
def TmRel (w : World) (l : List Kw) (ns : Nat) (G : Nat) (v i : Value) (wr : World) : Prop := ∃ (q m : Nat) (A : Option Addr) (c : Nat), q ≤ ns ∧ G = ns - q ∧ i = .int .i64 q ∧ v = .slice A m c ∧ m = (knowns (l.take q)).length ∧ RowK wr w.heap.size (.slice A m c) (knowns (l.take q)) ∧ Below w.heap.size w wr
set_option maxRecDepth 100000 in
set_option maxHeartbeats 16000000 in
theorem scripts_core (LA : Option Addr) (llen lcap : Nat) (ls9 : List Int) (w : World) (hI : IntsAt w LA llen ls9) (hpow : Pow10 w) (hml : MaxLenAt w) :
    Calls Tryz.prog 7 #[.slice LA llen lcap] w (RB w (.bool true)) := by
  have HL := Lib.hid hI; have HPW := Lib.hid hpow; have HML := Lib.hid hml; clear hI hpow hml
  go_enter Tryz.func7, Tryz.ntmps7
  go_wp2_with fail
  refine (new_any LA llen lcap ls9 _ (IntsAt.below HL.out (by (repeat' (first | (with_reducible exact Below.refl _ _) | (with_reducible refine Below.setCell ?_ ?_ _) | (with_reducible refine Below.alloc ?_ ?_ _) | (with_reducible refine Below.drew ?_) | (with_reducible refine below_drewN ?_ _))) <;> (first | omega | (simp <;> omega))))).mono ?_
  rintro e w1 ⟨rfl, ht1, hb1⟩
  have Z1 := hb1.size
  have T1 := ht1.lt
  have HT := Lib.hid ht1
  have HK1 := Lib.hid (show Below w.heap.size w w1 from kept_call hb1 (by (repeat' (first | (with_reducible exact Below.refl _ _) | (with_reducible refine Below.setCell ?_ ?_ _) | (with_reducible refine Below.alloc ?_ ?_ _) | (with_reducible refine Below.drew ?_) | (with_reducible refine below_drewN ?_ _))) <;> (first | omega | (simp <;> omega))))
  clear ht1 hb1
  go_wp2_with fail
  refine (sched_any _ 6 false _ HT.out (by omega) (by omega)).mono ?_
  rintro e w2 ⟨sta, loc, p, li, ai, EA, SA, ecap, scap, es, xs, rfl, hok, hnum, hst, -, hg2⟩
  have Z2 : w1.heap.size ≤ w2.heap.size := hg2.size
  have HK := Lib.hid (show Below w.heap.size w w2 from below_grown HK1.out hg2 (by first | exact Nat.le_refl _ | omega | (simp <;> omega)) (by first | exact Nat.le_refl _ | omega | (simp <;> omega)))
  clear HK1 HT hg2
  have hxl : xs.length ≤ 6 := by have := hok.2.2.2.2.2.2.2.2.2.2.2.2.2.2.1; omega
  have hxl0 : 1 ≤ xs.length := hok.2.2.2.2.2.2.2.2.2.2.2.2.2.1
  have hel : es.length ≤ 5 := hok.2.2.2.2.2.2.2.2.2.2.2.1
  have hel0 : 1 ≤ es.length := hok.2.2.2.2.2.2.2.2.2.2.1
  have hp0 : 0 ≤ p := hok.2.2.2.2.1
  have hp1 : p ≤ 1000000 := hok.2.2.2.2.2.1
  have HS := Lib.hid (show SchAt w2 ⟨sta, loc, p, 0, 0, es, xs⟩ EA SA from ⟨NsAt.nums hnum (by show es.length ≤ _; omega), StpsAt.steps hst (by show xs.length ≤ _; omega)⟩)
  have HG := Lib.hid (sch_truthful hok (by omega))
  clear hnum hst hok HL
  have HTS := Lib.hid (ts_init HG.out)
  obtain ⟨ns, hn⟩ : ∃ ns, ns = es.length := ⟨_, rfl⟩
  obtain ⟨nx, hnx⟩ : ∃ ns, ns = xs.length := ⟨_, rfl⟩
  simp only [← hn, ← hnx] at hxl hxl0 hel hel0 ⊢
  have HN := Lib.hid hn; have HNX := Lib.hid hnx; clear hn hnx
  obtain ⟨l1, h1, n1, r1⟩ := top_line wSources #[115, 111, 117, 114, 99, 101, 115] rfl (by decide) [(ns : Int), 0] 2 rfl (by decide) (fun m hm => by simp only [List.mem_cons, List.mem_nil_iff, or_false] at hm; rcases hm with rfl | rfl <;> exact ⟨by omega, by omega⟩)
  obtain ⟨l2, h2, n2, r2⟩ := top_line wDrift #[100, 114, 105, 102, 116] rfl (by decide) [p] 1 rfl (by decide) (fun m hm => by simp only [List.mem_cons, List.mem_nil_iff, or_false] at hm; subst hm; exact ⟨by omega, by omega⟩)
  obtain ⟨M0, hM0⟩ : ∃ M, l1 ++ l2 = M := ⟨_, rfl⟩
  have nM0 : M0.length ≤ 400 := by rw [← hM0, List.length_append]; omega
  have HM0T := Lib.hid (show lnsT [lnW wSources [(ns : Int), 0], lnW wDrift [p]] = M0 from by rw [← hM0, ← h1, ← h2]; simp [lnsT])
  have HM0 := Lib.hid hM0; have R1 := Lib.hid r1; have R2 := Lib.hid r2; clear hM0 h1 h2 r1 r2
  go_upto_region 3 with fail
  obtain ⟨gB, hgB⟩ : ∃ g, w2.heap.size = g := ⟨_, rfl⟩
  obtain ⟨wA, hwA⟩ : ∃ x : World, x = w2.alloc (.cells #[.int .i64 sta, .int .i64 loc, .int .i64 p, .int .i64 li, .int .i64 0, .slice EA ns ecap, .slice SA nx scap] 51) := ⟨_, rfl⟩
  have bB : Blk wA gB 51 #[.int .i64 sta, .int .i64 loc, .int .i64 p, .int .i64 li, .int .i64 0, .slice EA ns ecap, .slice SA nx scap] := by rw [hwA, ← hgB]; exact Blk.new _ _ _
  have S2 : Below w2.heap.size w2 wA := by rw [hwA]; exact below_new _ _
  have ZA : gB + 1 ≤ wA.heap.size := by rw [hwA, ← hgB]; simp
  rw [← hwA, hgB]
  have gB0 : w.heap.size ≤ gB := by omega
  have KA : Below w.heap.size w wA := kept_call S2 HK.out
  replace HS := Lib.hid (HS.out.below S2)
  clear hwA S2 HK
  refine' wp_region_calm (by kernel_rfl) (fun _ _ w' => Below wA.heap.size wA w' ∧ Blk w' gB 51 #[.int .i64 sta, .int .i64 loc, .int .i64 p, .int .i64 li, .int .i64 0, .slice EA ns ecap, .slice SA nx scap]) (fun a b => Below a.heap.size a b) [(Is _), (Is _), (Is _), (SliceN [] 3 2 #[.int .i64 ns, .int .i64 0]), (Is _), (Is _), (Is _), (SliceN [] 3 1 #[.int .i64 p]), (Is _), (Is (.string ⟨M0.toArray⟩)), (Is _)] [[], [0], [1], [2], [3], [], [5], [6], [7], [4, 8], [9]] [] [] rfl (calmB_of (by kernel_rfl)) (fun u => by (simp only [calmPut, Act.put, List.setIfInBounds_toArray, List.set_cons_zero, List.set_cons_succ, Nat.zero_add, Nat.reduceAdd]; rfl)) ?_ (calmKeep_cons keep_is' (calmKeep_cons keep_is' (calmKeep_cons keep_is' (calmKeep_cons keep_sliceK (calmKeep_cons keep_is' (calmKeep_cons keep_is' (calmKeep_cons keep_is' (calmKeep_cons keep_sliceK (calmKeep_cons keep_is' (calmKeep_cons keep_is' (calmKeep_cons keep_is' (calmKeep_nil)))))))))))) ?_ ?_
  · intro _
    exact ⟨(Below.refl _ _).drew, bB.drew⟩
  rotate_left 8
  · skip
    refine calmSteps_cons (fun u wq n hn hn2 hC hk K hK => ?_) ?_
    · obtain ⟨hP, hX⟩ := hC
      clear hk
      go_simp
      exact hK _ _ _ rfl ⟨hP, hX⟩ (Below.refl _ _) rfl
    refine calmSteps_cons (fun u wq n hn hn2 hC hk K hK => ?_) ?_
    · obtain ⟨hP, hX⟩ := hC
      simp only [calmKnown, List.getElem?_cons_zero, List.getElem?_cons_succ, and_true, Is, Pure, Option.some.injEq, List.getD_cons_zero, List.getD_cons_succ, List.map_cons, List.map_nil] at hk
      have h0 := hk; clear hk
      simp only [h0] at hK ⊢
      have H0 := Lib.hid h0; clear h0
      have cX := hX.cell; have lX := hX.lt
      go_simp
      exact hK _ _ _ rfl ⟨hP, hX⟩ (Below.refl _ _) rfl
    refine calmSteps_cons (fun u wq n hn hn2 hC hk K hK => ?_) ?_
    · obtain ⟨hP, hX⟩ := hC
      simp only [calmKnown, List.getElem?_cons_zero, List.getElem?_cons_succ, and_true, Is, Pure, Option.some.injEq, List.getD_cons_zero, List.getD_cons_succ, List.map_cons, List.map_nil] at hk
      have h1 := hk; clear hk
      simp only [h1] at hK ⊢
      have H1 := Lib.hid h1; clear h1
      go_simp
      exact hK _ _ _ rfl ⟨hP, hX⟩ (Below.refl _ _) rfl
    refine calmSteps_cons (fun u wq n hn hn2 hC hk K hK => ?_) ?_
    · obtain ⟨hP, hX⟩ := hC
      simp only [calmKnown, List.getElem?_cons_zero, List.getElem?_cons_succ, and_true, Is, Pure, Option.some.injEq, List.getD_cons_zero, List.getD_cons_succ, List.map_cons, List.map_nil] at hk
      have h2 := hk; clear hk
      simp only [h2] at hK ⊢
      have H2 := Lib.hid h2; clear h2
      go_simp
      exact hK _ _ _ rfl ⟨kept_call (below_new _ _) hP, hX.alloc _⟩ (below_new _ _) ⟨_, rfl, (by simp), Blk.new _ _ _⟩
    refine calmSteps_cons (fun u wq n hn hn2 hC hk K hK => ?_) ?_
    · obtain ⟨hP, hX⟩ := hC
      simp only [calmKnown, List.getElem?_cons_zero, List.getElem?_cons_succ, and_true, Is, Pure, Option.some.injEq, List.getD_cons_zero, List.getD_cons_succ, List.map_cons, List.map_nil] at hk
      obtain ⟨g3, h3, -, q3⟩ := hk
      simp only [h3] at hK ⊢
      have H3 := Lib.hid h3; clear h3
      go_wp2_with fail
      refine (R1.out _ _ (NumsR.of (zs := [(ns : Int), 0]) q3)).mono ?_
      rintro e w9 ⟨rfl, hbl⟩
      exact hK _ _ _ rfl ⟨kept_call hbl hP, Blk.keep hbl hX⟩ hbl rfl
    refine calmSteps_cons (fun u wq n hn hn2 hC hk K hK => ?_) ?_
    · obtain ⟨hP, hX⟩ := hC
      clear hk
      go_simp
      exact hK _ _ _ rfl ⟨hP, hX⟩ (Below.refl _ _) rfl
    refine calmSteps_cons (fun u wq n hn hn2 hC hk K hK => ?_) ?_
    · obtain ⟨hP, hX⟩ := hC
      simp only [calmKnown, List.getElem?_cons_zero, List.getElem?_cons_succ, and_true, Is, Pure, Option.some.injEq, List.getD_cons_zero, List.getD_cons_succ, List.map_cons, List.map_nil] at hk
      have h5 := hk; clear hk
      simp only [h5] at hK ⊢
      have H5 := Lib.hid h5; clear h5
      have cX := hX.cell; have lX := hX.lt
      go_simp
      exact hK _ _ _ rfl ⟨hP, hX⟩ (Below.refl _ _) rfl
    refine calmSteps_cons (fun u wq n hn hn2 hC hk K hK => ?_) ?_
    · obtain ⟨hP, hX⟩ := hC
      simp only [calmKnown, List.getElem?_cons_zero, List.getElem?_cons_succ, and_true, Is, Pure, Option.some.injEq, List.getD_cons_zero, List.getD_cons_succ, List.map_cons, List.map_nil] at hk
      have h6 := hk; clear hk
      simp only [h6] at hK ⊢
      have H6 := Lib.hid h6; clear h6
      go_simp
      exact hK _ _ _ rfl ⟨kept_call (below_new _ _) hP, hX.alloc _⟩ (below_new _ _) ⟨_, rfl, (by simp), Blk.new _ _ _⟩
    refine calmSteps_cons (fun u wq n hn hn2 hC hk K hK => ?_) ?_
    · obtain ⟨hP, hX⟩ := hC
      simp only [calmKnown, List.getElem?_cons_zero, List.getElem?_cons_succ, and_true, Is, Pure, Option.some.injEq, List.getD_cons_zero, List.getD_cons_succ, List.map_cons, List.map_nil] at hk
      obtain ⟨g7, h7, -, q7⟩ := hk
      simp only [h7] at hK ⊢
      have H7 := Lib.hid h7; clear h7
      go_wp2_with fail
      refine (R2.out _ _ (NumsR.of (zs := [p]) q7)).mono ?_
      rintro e w9 ⟨rfl, hbl⟩
      exact hK _ _ _ rfl ⟨kept_call hbl hP, Blk.keep hbl hX⟩ hbl rfl
    refine calmSteps_cons (fun u wq n hn hn2 hC hk K hK => ?_) ?_
    · obtain ⟨hP, hX⟩ := hC
      simp only [calmKnown, List.getElem?_cons_zero, List.getElem?_cons_succ, and_true, Is, Pure, Option.some.injEq, List.getD_cons_zero, List.getD_cons_succ, List.map_cons, List.map_nil] at hk
      obtain ⟨h4, h8⟩ := hk
      simp only [h4, h8] at hK ⊢
      have H4 := Lib.hid h4; clear h4; have H8 := Lib.hid h8; clear h8
      have ea : ({ data := l1.toArray } : ByteArray) ++ { data := l2.toArray } = { data := M0.toArray } := by rw [← HM0.out]; simp [ByteArray.mk_append_mk]
      go_simp
      (try simp only [ea])
      (try simp only [HM0.out])
      rw [if_neg (by omega), Oper.upon_value]
      exact hK _ _ _ rfl ⟨hP, hX⟩ (Below.refl _ _) rfl
    refine calmSteps_cons (fun u wq n hn hn2 hC hk K hK => ?_) ?_
    · obtain ⟨hP, hX⟩ := hC
      simp only [calmKnown, List.getElem?_cons_zero, List.getElem?_cons_succ, and_true, Is, Pure, Option.some.injEq, List.getD_cons_zero, List.getD_cons_succ, List.map_cons, List.map_nil] at hk
      have h9 := hk; clear hk
      simp only [h9] at hK ⊢
      have H9 := Lib.hid h9; clear h9
      go_simp
      exact hK _ _ _ rfl ⟨hP, hX⟩ (Below.refl _ _) rfl
    exact calmSteps_nil
  · intro u w7 hC hF
    simp only [calmFacts, Is, and_true, true_and] at hF
    obtain ⟨f_0, f_1, f_2, -, f_4, f_5, f_6, -, f_8, f_9, f_10⟩ := hF
    simp only [f_0, f_1, f_2, f_4, f_5, f_6, f_8, f_9, f_10]
    clear f_0 f_1 f_2 f_4 f_5 f_6 f_8 f_9 f_10
    obtain ⟨hb7, bB7⟩ := hC
    have K7 := kept_call hb7 KA; have Z7 := hb7.size
    replace HS := Lib.hid (HS.out.below hb7)
    clear hb7 bB KA R1 R2
    go_upto_region 4 with fail
    refine' wp_region_calmD (by kernel_rfl) (fun D u9 w' => w' = w7.drew ∧ True) (fun _ _ => True) [(Is _), (Is _), (Is _), (Is _), (Is _), (Is _)] [[], [0], [], [2], [1], [3]] rfl (calmB_of (by kernel_rfl)) (fun u => by (simp only [calmPut, Act.put, List.setIfInBounds_toArray, List.set_cons_zero, List.set_cons_succ, Nat.zero_add, Nat.reduceAdd]; rfl)) ?_ (calmKeep_cons keep_is' (calmKeep_cons keep_is' (calmKeep_cons keep_is' (calmKeep_cons keep_is' (calmKeep_cons keep_is' (calmKeep_cons keep_is' (calmKeep_nil))))))) ?_ ?_
    · exact ⟨rfl, trivial⟩
    rotate_left 6
    · skip
      refine dSteps_cons (fun uu wq D hd hn hn2 hC hk K hK => ?_) ?_
      · obtain ⟨rfl, hT9⟩ := hC
        clear hn hn2
        clear hk
        go_simp
        exact hK _ _ _ rfl ⟨rfl, hT9⟩ trivial rfl
      refine dSteps_cons (fun uu wq D hd hn hn2 hC hk K hK => ?_) ?_
      · obtain ⟨rfl, hT9⟩ := hC
        clear hn hn2
        simp only [calmKnown, List.getElem?_cons_zero, List.getElem?_cons_succ, and_true, Is, Pure, Option.some.injEq, List.getD_cons_zero, List.getD_cons_succ, List.map_cons, List.map_nil] at hk
        have h0 := hk; clear hk
        simp only [h0] at hK ⊢
        have H0 := Lib.hid h0; clear h0
        have bBd := bB7.drew; have cB := bBd.cell; have lB := bBd.lt
        go_simp
        exact hK _ _ _ rfl ⟨rfl, hT9⟩ trivial rfl
      refine dSteps_cons (fun uu wq D hd hn hn2 hC hk K hK => ?_) ?_
      · obtain ⟨rfl, hT9⟩ := hC
        clear hn hn2
        clear hk
        go_simp
        exact hK _ _ _ rfl ⟨rfl, hT9⟩ trivial rfl
      refine dSteps_cons (fun uu wq D hd hn hn2 hC hk K hK => ?_) ?_
      · obtain ⟨rfl, hT9⟩ := hC
        clear hn hn2
        simp only [calmKnown, List.getElem?_cons_zero, List.getElem?_cons_succ, and_true, Is, Pure, Option.some.injEq, List.getD_cons_zero, List.getD_cons_succ, List.map_cons, List.map_nil] at hk
        have h2 := hk; clear hk
        simp only [h2] at hK ⊢
        have H2 := Lib.hid h2; clear h2
        have bBd := bB7.drew; have cB := bBd.cell; have lB := bBd.lt
        go_simp
        exact hK _ _ _ rfl ⟨rfl, hT9⟩ trivial rfl
      refine dSteps_cons (fun uu wq D hd hn hn2 hC hk K hK => ?_) ?_
      · obtain ⟨rfl, hT9⟩ := hC
        clear hn hn2
        simp only [calmKnown, List.getElem?_cons_zero, List.getElem?_cons_succ, and_true, Is, Pure, Option.some.injEq, List.getD_cons_zero, List.getD_cons_succ, List.map_cons, List.map_nil] at hk
        have h1 := hk; clear hk
        simp only [h1] at hK ⊢
        have H1 := Lib.hid h1; clear h1
        go_simp
        exact hK _ _ _ rfl ⟨rfl, hT9⟩ trivial rfl
      refine dSteps_cons (fun uu wq D hd hn hn2 hC hk K hK => ?_) ?_
      · obtain ⟨rfl, hT9⟩ := hC
        clear hn hn2
        simp only [calmKnown, List.getElem?_cons_zero, List.getElem?_cons_succ, and_true, Is, Pure, Option.some.injEq, List.getD_cons_zero, List.getD_cons_succ, List.map_cons, List.map_nil] at hk
        have h3 := hk; clear hk
        simp only [h3] at hK ⊢
        have H3 := Lib.hid h3; clear h3
        go_simp
        exact hK _ _ _ rfl ⟨rfl, hT9⟩ trivial rfl
      exact dSteps_nil
    · intro uu wz4 D hD hC hF
      obtain ⟨rfl, hT9⟩ := hC
      simp only [calmFacts, Is, and_true, true_and] at hF
      obtain ⟨f0, f1, f2, f3, f4, f5⟩ := hF
      simp only [f0, f1, f2, f3, f4, f5]
      clear hD hT9
      obtain ⟨w8, hw8⟩ : ∃ x : World, x = w7.drew := ⟨_, rfl⟩
      have S8 : Below w7.heap.size w7 w8 := by rw [hw8]; exact (Below.refl _ _).drew
      have bB8 := bB7.below S8
      have K8 := kept_call S8 K7; have Z8 := S8.size
      replace HS := Lib.hid (HS.out.below S8)
      rw [← hw8]
      clear hw8 S8 bB7 K7
      obtain ⟨cB, fB, lB, eB, kB⟩ := Blk.facts bB8
      obtain ⟨i0, hif, hz0, hz1, hz2⟩ := info_parts infoBl
      obtain ⟨j0, hjf, hj0, hj1, hj2⟩ := info_parts infoKn
      go_upto_region 6 with fail
      have hmk := run_makeSlice (P := Tryz.prog) (w := w8) 54 4 i0 _ Tryz.underlying54 hif hz0 .i64 .i64 (ns : Int) (ns : Int) (by omega) (Int.le_refl _) (by rw [hz1]; simp only [Int.toNat_natCast]; omega) (by rw [hz2]; omega) (by omega)
      simp only [Int.toNat_natCast, hz1, Nat.mul_one] at hmk
      go_upto_region 7 with fail
      clear hmk
      obtain ⟨gs, hgs⟩ : ∃ g, w8.heap.size = g := ⟨_, rfl⟩
      obtain ⟨wB, hwB⟩ : ∃ x : World, x = w8.alloc (.cells (madeCells #[.bool false] ns) 4) := ⟨_, rfl⟩
      have S9 : Below w8.heap.size w8 wB := by rw [hwB]; exact below_new _ _
      have bS : Blk wB gs 4 (madeCells #[.bool false] ns) := by rw [hwB, ← hgs]; exact Blk.new _ _ _
      have bBB := bB8.below S9
      obtain ⟨gk, hgb⟩ : ∃ g, gs + 1 = g := ⟨_, rfl⟩
      have ZB : wB.heap.size = gk := by rw [hwB, ← hgb, ← hgs]; simp
      rw [← hwB, hgs]
      clear hwB cB fB lB eB kB
      obtain ⟨cB, fB, lB, eB, kB⟩ := Blk.facts bBB
      have hmk := run_makeSlice (P := Tryz.prog) (w := wB) 53 44 j0 _ Tryz.underlying53 hjf hj0 .i64 .i64 (ns : Int) (ns : Int) (by omega) (Int.le_refl _) (by rw [hj1]; simp only [Int.toNat_natCast]; omega) (by rw [hj2]; omega) (by omega)
      simp only [Int.toNat_natCast, hj1] at hmk
      go_upto_region 8 with fail
      clear hmk
      obtain ⟨wC, hwC⟩ : ∃ x : World, x = wB.alloc (.cells (madeCells #[.int .i64 0, .int .i64 0, .int .i64 0, .int .i64 0, .int .i64 0, .int .i64 0] (ns * 6)) 44) := ⟨_, rfl⟩
      have S10 : Below wB.heap.size wB wC := by rw [hwC]; exact below_new _ _
      have bK : Blk wC gk 44 (madeCells #[.int .i64 0, .int .i64 0, .int .i64 0, .int .i64 0, .int .i64 0, .int .i64 0] (ns * 6)) := by rw [hwC, ← ZB]; exact Blk.new _ _ _
      have bBC := bBB.below S10
      have bSC := bS.below S10
      have ZC : w8.heap.size + 2 ≤ wC.heap.size := by rw [hwC]; simp; omega
      rw [← hwC]
      have SC8 : Below w8.heap.size w8 wC := kept_call S10 S9
      have hgsb : gs < gk := by omega
      have gBs : gB < gs := by have := bB8.lt; omega
      have hgs8 : w8.heap.size ≤ gs := by omega
      clear hwC hgs hgb ZB cB fB lB eB kB S9 S10 bS bBB bB8 hif hz0 hz1 hz2 hjf hj0 hj1 hj2
      have HKS := Lib.hid (show KsAt (madeCells #[.bool false] ns) (madeCells #[.int .i64 0, .int .i64 0, .int .i64 0, .int .i64 0, .int .i64 0, .int .i64 0] (ns * 6)) (List.replicate es.length (false, .zero)) from by rw [← HN.out]; exact ks_made ns)
      have HBB := Lib.hid bBC; have HBS := Lib.hid bSC; have HBK := Lib.hid bK; have HSC8 := Lib.hid SC8; have HK8 := Lib.hid K8; clear bBC bSC bK SC8 K8
      have HTS0 := Lib.hid (show TsN ⟨sta, loc, p, 0, 0, es, xs⟩ 0 (⟨sta, loc, p, 0, 0, es, xs⟩ : Sch).init [lnW wSources [(ns : Int), 0], lnW wDrift [p]] from by rw [HN.out]; exact HTS.out)
      clear HTS
      have lB0 := HBB.out.lt; have cB0 := HBB.out.cell
      go_wp2
      clear lB0 cB0
      go_loopg [4, 5, 6, 10] nx (fun G tx tv uv i wr => TsRel w8 ⟨sta, loc, p, 0, 0, es, xs⟩ nx gs gk gB #[.int .i64 sta, .int .i64 loc, .int .i64 p, .int .i64 li, .int .i64 0, .slice EA ns ecap, .slice SA nx scap] G tx tv uv i wr)
      case atStart => exact ⟨0, _, _, _, _, by omega, by omega, rfl, HTS0.out, by rw [HM0T.out], rfl, rfl, HBS.out, HBK.out, HKS.out, HBB.out, by omega, HSC8.out⟩
      case round =>
        obtain ⟨q, m, ls, cs, cb, hq, rfl, rfl, hts, rfl, rfl, rfl, bS, bK, hks, bB, hB2, KR⟩ := hrel
        have ZR := KR.size
        clear HBB HBS HBK HSC8 HKS HTS0
        have HTS := Lib.hid hts; have HKS := Lib.hid hks; have HKR := Lib.hid KR
        have hlen := hts.2.2.2.1; have hml9 := (RunN.len hts.1.choose_spec).2
        clear hts hks
        obtain ⟨tx, htx⟩ : ∃ tx, lnsT ls = tx := ⟨_, rfl⟩
        rw [htx] at hlen ⊢
        have htl : tx.length ≤ 2000 := by omega
        have HTX := Lib.hid htx; clear htx hlen
        have hbl : m.by_.length = ns := by rw [hml9, HN.out]
        have HBL := Lib.hid hbl; clear hbl hml9
        have HWQ := Lib.hid (show ∀ k ∈ ([gs, gk] : List Nat), w8.heap.size ≤ k from by intro k hk; simp at hk; omega)
        by_cases hlt : q < nx
        · have gq : decide ((q : Int) < (nx : Int)) = true := decide_eq_true (by omega)
          have gqn : decide (q < nx) = true := decide_eq_true hlt
          have wq9 : IntKind.i64.wrap ((q : Int) + 1) = ((q + 1 : Nat) : Int) := by rw [IntWalk.i64_in _ (by omega)]; omega
          have hst9 : StpsAt wr SA xs.length xs := (HS.out.below KR).2
          obtain ⟨bk9, off9, rfl, lbk9, d0, d1, d2, d3, d4, d5, d6, d7, d8, d9, d10⟩ := hst9.cells (show q < xs.length by rw [← HNX.out]; exact hlt)
          clear hst9
          have hxm : xs.getD q .zero ∈ xs := by rw [List.getD_eq_getElem?_getD, List.getElem?_eq_getElem (by rw [← HNX.out]; exact hlt)]; exact List.getElem_mem _
          have hs0 : 0 ≤ (xs.getD q .zero).src := (Stp.rg_all (stpE_0 ((chkE_0 HG.out.1).2.2.2.2 _ hxm)).1).1
          clear hxm
          obtain ⟨x, hx⟩ : ∃ x, xs.getD q .zero = x := ⟨_, rfl⟩
          simp only [hx] at d0 d1 d2 d3 d4 d5 d6 d7 d8 d9 d10 hs0
          obtain ⟨src, hsrc⟩ : ∃ src : Nat, x.src = src := ⟨x.src.toNat, by omega⟩
          obtain ⟨xs0, tr, lo, ou, ol, ho, hl, ba, bl9, x2, x3⟩ := x
          dsimp only at hsrc hs0 d0 d1 d2 d3 d4 d5 d6 d7 d8 d9 d10
          subst hsrc
          clear hs0
          obtain ⟨hsrcn, T1, T2, T3, T4, V2, V3, U1, U2, U3, U4, e0, a0, a1, ae, m', w1_, w2_, w3_, w4_, w5_, w6_, w7_, w8_, w9_, w10_, he0, hat, ht', hu', hsm, hts', hby1, hby2, hle⟩ := ts_round HG.out (show q < xs.length by rw [← HNX.out]; exact hlt) hx HTS.out
          dsimp only at hsrcn he0 hat hby1 hby2
          rw [← HN.out] at hsrcn
          have HSM := Lib.hid hsm; have HTS2 := Lib.hid hts'; have HB1 := Lib.hid hby1; have HB2 := Lib.hid hby2; have HLE := Lib.hid hle; have HT' := Lib.hid ht'; have HU' := Lib.hid hu'; clear hsm hts' hby1 hby2 hle ht' hu' HTS hx
          obtain ⟨mt0, hmt0⟩ : ∃ z, m.t = z := ⟨_, rfl⟩
          obtain ⟨mu0, hmu0⟩ : ∃ z, m.u = z := ⟨_, rfl⟩
          rw [hmt0] at w1_
          rw [hmu0] at w7_
          simp only [hmt0, hmu0]
          clear hmt0 hmu0
          have hes : NsAt w8 EA ns es := by have h9 : NsAt w8 EA es.length es := HS.out.1; rw [← HN.out] at h9; exact h9
          obtain ⟨be9, oe9, rfl, lbe9, hce⟩ := hes.2.2 (by omega)
          have de := cell_below KR (hce src hsrcn)
          rw [he0] at de
          clear hes hce he0
          have gsn : decide ((src : Int) < (ns : Int)) = true := decide_eq_true (by omega)
          have gsnn : decide (src < ns) = true := decide_eq_true hsrcn
          have HAT0 := Lib.hid hat; clear hat
          obtain ⟨l9, hl9, nl9, r9⟩ := top_line wSample #[115, 97, 109, 112, 108, 101] rfl (by decide) [(src : Int), U1, V2, V3, U4, e0] 6 rfl (by decide) (fun n9 hn9 => s17J (HSM.out n9 hn9))
          have HL9 := Lib.hid hl9; have R9 := Lib.hid r9; clear hl9 r9
          have cB := bB.cell; have lB := bB.lt
          go_upto_region 12 with fail
          obtain ⟨wX, hwX⟩ : ∃ x9 : World, x9 = wr.alloc (.cells #[.int .i64 src, .int .i64 tr, .int .i64 lo, .int .i64 ou, .int .i64 ol, .int .i64 ho, .int .i64 hl, .int .i64 ba, .int .i64 bl9, .int .i64 x2, .int .i64 x3] 56) := ⟨_, rfl⟩
          have hqA : Past [gs, gk] wr wX := by rw [hwX]; exact (Past.refl _ _).allocs _
          have bX : Blk wX wr.heap.size 56 #[.int .i64 src, .int .i64 tr, .int .i64 lo, .int .i64 ou, .int .i64 ol, .int .i64 ho, .int .i64 hl, .int .i64 ba, .int .i64 bl9, .int .i64 x2, .int .i64 x3] := by rw [hwX]; exact Blk.new _ _ _
          have bS' : Blk wX gs 4 cs := by rw [hwX]; exact bS.alloc _
          have bK' : Blk wX gk 44 cb := by rw [hwX]; exact bK.alloc _
          have bB' : Blk wX gB 51 #[.int .i64 sta, .int .i64 loc, .int .i64 p, .int .i64 li, .int .i64 0, .slice (some ⟨be9, oe9, none⟩) ns ecap, .slice (some ⟨bk9, off9, none⟩) nx scap] := by rw [hwX]; exact bB.alloc _
          have de' := cell_below (show Below wr.heap.size wr wX from by rw [hwX]; exact below_new _ _) de
          have ZX : wr.heap.size + 1 ≤ wX.heap.size := by rw [hwX]; simp
          have lS0 := bS.lt; have lK0 := bK.lt
          rw [← hwX]
          clear hwX bS bK bB cB lB d0 d1 d2 d3 d4 d5 d6 d7 d8 d9 d10 de
          have bS := bS'; have bK := bK'; have bB := bB'; have de := de'; clear bS' bK' bB' de'
          obtain ⟨cS, fS, lS, eS, kS⟩ := Blk.facts bS
          obtain ⟨cK, fK, lK, eK, kK⟩ := Blk.facts bK
          obtain ⟨cB, fB, lB, eB, kB⟩ := Blk.facts bB
          obtain ⟨cX, fX, lX, eX, kX⟩ := Blk.facts bX
          have oX := lX
          refine' wp_region_calmD (by kernel_rfl) (fun D u9 w' => Past [gs, gk] wX w' ∧ Blk w' (gs) 4 cs ∧ Blk w' (gk) 44 cb ∧ Blk w' (gB) 51 #[.int .i64 sta, .int .i64 loc, .int .i64 p, .int .i64 li, .int .i64 0, .slice (some ⟨be9, oe9, none⟩) ns ecap, .slice (some ⟨bk9, off9, none⟩) nx scap] ∧ Blk w' (wr.heap.size) 56 #[.int .i64 src, .int .i64 tr, .int .i64 lo, .int .i64 ou, .int .i64 ol, .int .i64 ho, .int .i64 hl, .int .i64 ba, .int .i64 bl9, .int .i64 x2, .int .i64 x3] ∧ NewD wX.heap.size 37 #[.int .i64 0, .int .i64 0, .int .i64 0, .int .i64 0, .int .i64 0] #[.int .i64 U1, .int .i64 0, .int .i64 0, .int .i64 0, .int .i64 e0] (D 11) (D 12) (u9 11) w' ∧ wX.heap.size ≤ w'.heap.size) (fun _ _ => True) [(Is _), (Is _), (Is _), (Is _), (Is _), (Is _), (Is _), (Is _), (Is _), (Is _), (Is _), (fun _ _ _ => True), (fun _ _ _ => True)] [[], [0], [], [2], [1, 3], [4], [], [], [7], [6, 8], [5, 9], [], [11, 10]] rfl (calmB_of (by kernel_rfl)) (fun u => by (simp only [calmPut, Act.put, List.setIfInBounds_toArray, List.set_cons_zero, List.set_cons_succ, Nat.zero_add, Nat.reduceAdd]; rfl)) ?_ (calmKeep_cons keep_is' (calmKeep_cons keep_is' (calmKeep_cons keep_is' (calmKeep_cons keep_is' (calmKeep_cons keep_is' (calmKeep_cons keep_is' (calmKeep_cons keep_is' (calmKeep_cons keep_is' (calmKeep_cons keep_is' (calmKeep_cons keep_is' (calmKeep_cons keep_is' (calmKeep_cons keep_triv (calmKeep_cons keep_triv (calmKeep_nil)))))))))))))) ?_ ?_
          · exact ⟨(by (repeat' (first | (with_reducible exact (Past.refl _ _)) | (with_reducible exact Past.refl _ _) | (with_reducible refine Past.drew ?_) | (with_reducible refine Past.drewN ?_ _) | (with_reducible refine Past.allocs ?_ _) | (with_reducible refine' Past.setIn ?_ ?_ _; rotate_left 1; (focus (simp; done))) | (with_reducible refine' Past.far ?_ ?_ _; rotate_left 1; (first | omega | (simp <;> omega)))))), (by (repeat' (first | (with_reducible exact bS) | (with_reducible refine' Blk.alloc ?_ _) | (with_reducible refine' Blk.drew ?_) | (with_reducible refine' Blk.drewN ?_ _) | (with_reducible refine' Blk.put ?_ ?_) | (with_reducible refine' Blk.far ?_ ?_ _) | exact bS | exact rfl)) <;> (first | omega | (simp <;> omega))), (by (repeat' (first | (with_reducible exact bK) | (with_reducible refine' Blk.alloc ?_ _) | (with_reducible refine' Blk.drew ?_) | (with_reducible refine' Blk.drewN ?_ _) | (with_reducible refine' Blk.put ?_ ?_) | (with_reducible refine' Blk.far ?_ ?_ _) | exact bK | exact rfl)) <;> (first | omega | (simp <;> omega))), (by (repeat' (first | (with_reducible exact bB) | (with_reducible refine' Blk.alloc ?_ _) | (with_reducible refine' Blk.drew ?_) | (with_reducible refine' Blk.drewN ?_ _) | (with_reducible refine' Blk.put ?_ ?_) | (with_reducible refine' Blk.far ?_ ?_ _) | exact bB | exact rfl)) <;> (first | omega | (simp <;> omega))), (by (repeat' (first | (with_reducible exact bX) | (with_reducible refine' Blk.alloc ?_ _) | (with_reducible refine' Blk.drew ?_) | (with_reducible refine' Blk.drewN ?_ _) | (with_reducible refine' Blk.put ?_ ?_) | (with_reducible refine' Blk.far ?_ ?_ _) | exact bX | exact rfl)) <;> (first | omega | (simp <;> omega))), NewD.start _, (by first | exact Nat.le_refl _ | omega | (simp <;> omega))⟩
          rotate_left 11
          · skip
            refine dSteps_cons (fun uu wq D hd hn hn2 hC hk K hK => ?_) ?_
            · obtain ⟨hP, mS, mK, mB, mX, nY, hZ⟩ := hC
              clear hn hn2
              clear hk
              go_simp
              exact hK _ _ _ rfl ⟨hP, mS, mK, mB, mX, nY, hZ⟩ trivial rfl
            refine dSteps_cons (fun uu wq D hd hn hn2 hC hk K hK => ?_) ?_
            · obtain ⟨hP, mS, mK, mB, mX, nY, hZ⟩ := hC
              clear hn hn2
              simp only [calmKnown, List.getElem?_cons_zero, List.getElem?_cons_succ, and_true, Is, Pure, Option.some.injEq, List.getD_cons_zero, List.getD_cons_succ, List.map_cons, List.map_nil] at hk
              have h0 := hk; clear hk
              simp only [h0] at hK ⊢
              have H0 := Lib.hid h0; clear h0
              have de9 : wq.cell? ⟨be9, oe9 + src, none⟩ = some (.int .i64 e0) := Past.cell hP (by simp; omega) de
              have cS := mS.cell; have lS := mS.lt
              have cK := mK.cell; have lK := mK.lt
              have cB := mB.cell; have lB := mB.lt
              have cX := mX.cell; have lX := mX.lt
              go_simp
              exact hK _ _ _ rfl ⟨hP, mS, mK, mB, mX, nY, hZ⟩ trivial rfl
            refine dSteps_cons (fun uu wq D hd hn hn2 hC hk K hK => ?_) ?_
            · obtain ⟨hP, mS, mK, mB, mX, nY, hZ⟩ := hC
              clear hn hn2
              clear hk
              go_simp
              exact hK _ _ _ rfl ⟨hP, mS, mK, mB, mX, nY, hZ⟩ trivial rfl
            refine dSteps_cons (fun uu wq D hd hn hn2 hC hk K hK => ?_) ?_
            · obtain ⟨hP, mS, mK, mB, mX, nY, hZ⟩ := hC
              clear hn hn2
              simp only [calmKnown, List.getElem?_cons_zero, List.getElem?_cons_succ, and_true, Is, Pure, Option.some.injEq, List.getD_cons_zero, List.getD_cons_succ, List.map_cons, List.map_nil] at hk
              have h2 := hk; clear hk
              simp only [h2] at hK ⊢
              have H2 := Lib.hid h2; clear h2
              have de9 : wq.cell? ⟨be9, oe9 + src, none⟩ = some (.int .i64 e0) := Past.cell hP (by simp; omega) de
              have cS := mS.cell; have lS := mS.lt
              have cK := mK.cell; have lK := mK.lt
              have cB := mB.cell; have lB := mB.lt
              have cX := mX.cell; have lX := mX.lt
              go_simp
              exact hK _ _ _ rfl ⟨hP, mS, mK, mB, mX, nY, hZ⟩ trivial rfl
            refine dSteps_cons (fun uu wq D hd hn hn2 hC hk K hK => ?_) ?_
            · obtain ⟨hP, mS, mK, mB, mX, nY, hZ⟩ := hC
              clear hn hn2
              simp only [calmKnown, List.getElem?_cons_zero, List.getElem?_cons_succ, and_true, Is, Pure, Option.some.injEq, List.getD_cons_zero, List.getD_cons_succ, List.map_cons, List.map_nil] at hk
              obtain ⟨h1, h3⟩ := hk
              simp only [h1, h3] at hK ⊢
              have H1 := Lib.hid h1; clear h1; have H3 := Lib.hid h3; clear h3
              go_simp
              exact hK _ _ _ rfl ⟨hP, mS, mK, mB, mX, nY, hZ⟩ trivial rfl
            refine dSteps_cons (fun uu wq D hd hn hn2 hC hk K hK => ?_) ?_
            · obtain ⟨hP, mS, mK, mB, mX, nY, hZ⟩ := hC
              clear hn hn2
              simp only [calmKnown, List.getElem?_cons_zero, List.getElem?_cons_succ, and_true, Is, Pure, Option.some.injEq, List.getD_cons_zero, List.getD_cons_succ, List.map_cons, List.map_nil] at hk
              have h4 := hk; clear hk
              simp only [h4] at hK ⊢
              have H4 := Lib.hid h4; clear h4
              have de9 : wq.cell? ⟨be9, oe9 + src, none⟩ = some (.int .i64 e0) := Past.cell hP (by simp; omega) de
              have cS := mS.cell; have lS := mS.lt
              have cK := mK.cell; have lK := mK.lt
              have cB := mB.cell; have lB := mB.lt
              have cX := mX.cell; have lX := mX.lt
              go_simp
              exact hK _ _ _ rfl ⟨hP, mS, mK, mB, mX, nY, hZ⟩ trivial rfl
            refine dSteps_cons (fun uu wq D hd hn hn2 hC hk K hK => ?_) ?_
            · obtain ⟨hP, mS, mK, mB, mX, nY, hZ⟩ := hC
              clear hn hn2
              clear hk
              go_simp
              exact hK _ _ _ rfl ⟨hP, mS, mK, mB, mX, nY, hZ⟩ trivial rfl
            refine dSteps_cons (fun uu wq D hd hn hn2 hC hk K hK => ?_) ?_
            · obtain ⟨hP, mS, mK, mB, mX, nY, hZ⟩ := hC
              clear hn hn2
              clear hk
              go_simp
              exact hK _ _ _ rfl ⟨hP, mS, mK, mB, mX, nY, hZ⟩ trivial rfl
            refine dSteps_cons (fun uu wq D hd hn hn2 hC hk K hK => ?_) ?_
            · obtain ⟨hP, mS, mK, mB, mX, nY, hZ⟩ := hC
              clear hn hn2
              simp only [calmKnown, List.getElem?_cons_zero, List.getElem?_cons_succ, and_true, Is, Pure, Option.some.injEq, List.getD_cons_zero, List.getD_cons_succ, List.map_cons, List.map_nil] at hk
              have h7 := hk; clear hk
              simp only [h7] at hK ⊢
              have H7 := Lib.hid h7; clear h7
              have de9 : wq.cell? ⟨be9, oe9 + src, none⟩ = some (.int .i64 e0) := Past.cell hP (by simp; omega) de
              have cS := mS.cell; have lS := mS.lt
              have cK := mK.cell; have lK := mK.lt
              have cB := mB.cell; have lB := mB.lt
              have cX := mX.cell; have lX := mX.lt
              go_simp
              exact hK _ _ _ rfl ⟨hP, mS, mK, mB, mX, nY, hZ⟩ trivial rfl
            refine dSteps_cons (fun uu wq D hd hn hn2 hC hk K hK => ?_) ?_
            · obtain ⟨hP, mS, mK, mB, mX, nY, hZ⟩ := hC
              clear hn hn2
              simp only [calmKnown, List.getElem?_cons_zero, List.getElem?_cons_succ, and_true, Is, Pure, Option.some.injEq, List.getD_cons_zero, List.getD_cons_succ, List.map_cons, List.map_nil] at hk
              obtain ⟨h6, h8⟩ := hk
              simp only [h6, h8] at hK ⊢
              have H6 := Lib.hid h6; clear h6; have H8 := Lib.hid h8; clear h8
              go_simp
              exact hK _ _ _ rfl ⟨hP, mS, mK, mB, mX, nY, hZ⟩ trivial rfl
            refine dSteps_cons (fun uu wq D hd hn hn2 hC hk K hK => ?_) ?_
            · obtain ⟨hP, mS, mK, mB, mX, nY, hZ⟩ := hC
              clear hn hn2
              simp only [calmKnown, List.getElem?_cons_zero, List.getElem?_cons_succ, and_true, Is, Pure, Option.some.injEq, List.getD_cons_zero, List.getD_cons_succ, List.map_cons, List.map_nil] at hk
              obtain ⟨h5, h9⟩ := hk
              simp only [h5, h9] at hK ⊢
              have H5 := Lib.hid h5; clear h5; have H9 := Lib.hid h9; clear h9
              go_simp
              exact hK _ _ _ rfl ⟨hP, mS, mK, mB, mX, nY, hZ⟩ trivial rfl
            refine dSteps_cons (fun uu wq D hd hn hn2 hC hk K hK => ?_) ?_
            · obtain ⟨hP, mS, mK, mB, mX, nY, hZ⟩ := hC
              replace hn := Lib.hid hn; replace hn2 := Lib.hid hn2
              clear hk
              have d12 := hn.out 12 (by kernel_rfl)
              go_simp
              exact hK _ _ _ rfl ⟨hP.allocs _, mS.alloc _, mK.alloc _, mB.alloc _, mX.alloc _, NewD.made hZ d12, Nat.le_trans hZ (by simp)⟩ trivial trivial
            refine dSteps_cons (fun uu wq D hd hn hn2 hC hk K hK => ?_) ?_
            · obtain ⟨hP, mS, mK, mB, mX, nY, hZ⟩ := hC
              replace hn := Lib.hid hn; replace hn2 := Lib.hid hn2
              simp only [calmKnown, List.getElem?_cons_zero, List.getElem?_cons_succ, and_true, Is, Pure, Option.some.injEq, List.getD_cons_zero, List.getD_cons_succ, List.map_cons, List.map_nil] at hk
              obtain ⟨-, h10⟩ := hk
              simp only [h10] at hK ⊢
              have H10 := Lib.hid h10; clear h10
              have da : D 11 = true := hn2.out 11 (by kernel_rfl)
              obtain ⟨gn, hgn, gb, gl, hB⟩ := nY.one da hd
              simp only [hgn] at hK ⊢
              have hc9 := hB.cell; have hf9 := hB.frozen
              have hB2 := setAll_blk [.int .i64 U1, .int .i64 0, .int .i64 0, .int .i64 0, .int .i64 e0] 0 wq _ hB
              simp only [setArr, List.setIfInBounds_toArray, List.set_cons_zero, List.set_cons_succ, Nat.zero_add, Nat.reduceAdd] at hB2
              go_simp
              exact hK _ undef (setAll wq gn 0 [.int .i64 U1, .int .i64 0, .int .i64 0, .int .i64 0, .int .i64 e0]) rfl ⟨(setAll_past gb [.int .i64 U1, .int .i64 0, .int .i64 0, .int .i64 0, .int .i64 e0] 0 wq hP), setAll_far (show gs ≠ gn by first | omega | (simp <;> omega)) [.int .i64 U1, .int .i64 0, .int .i64 0, .int .i64 0, .int .i64 e0] 0 wq mS, setAll_far (show gk ≠ gn by first | omega | (simp <;> omega)) [.int .i64 U1, .int .i64 0, .int .i64 0, .int .i64 0, .int .i64 e0] 0 wq mK, setAll_far (show gB ≠ gn by first | omega | (simp <;> omega)) [.int .i64 U1, .int .i64 0, .int .i64 0, .int .i64 0, .int .i64 e0] 0 wq mB, setAll_far (show wr.heap.size ≠ gn by first | omega | (simp <;> omega)) [.int .i64 U1, .int .i64 0, .int .i64 0, .int .i64 0, .int .i64 e0] 0 wq mX, (show NewD _ _ _ _ (D 11) true (uu 11) _ from by rw [hgn]; exact NewD.stored gb hB2), (by rw [setAll_size]; exact hZ)⟩ trivial trivial
            exact dSteps_nil
          · intro uu v1 D hD hC hF
            obtain ⟨hP, mS, mK, mB, mX, nY, hZ⟩ := hC
            simp only [calmFacts, Is, and_true, true_and] at hF
            obtain ⟨f0, f1, f2, f3, f4, f5, f6, f7, f8, f9, f10⟩ := hF
            simp only [f0, f1, f2, f3, f4, f5, f6, f7, f8, f9, f10]
            obtain ⟨gY, e9Y, gbY, glY, bY'⟩ := nY.last (hD 11 (by decide)) (hD 12 (by decide))
            simp only [e9Y]
            clear e9Y
            have hq := hP; clear hP
            have Kv1 : Past [gs, gk] wr v1 := Past.trans hqA hq
            have Zv1 := hZ; clear hZ
            clear hq hqA
            clear bS cS fS lS eS kS; have bS := mS
            clear bK cK fK lK eK kK; have bK := mK
            clear bB cB fB lB eB kB; have bB := mB
            clear bX cX fX lX eX kX; have bX := mX
            clear mS mK mB mX nY hD
            have bY := bY'; clear bY'
            obtain ⟨cS, fS, lS, eS, kS⟩ := Blk.facts bS
            obtain ⟨cK, fK, lK, eK, kK⟩ := Blk.facts bK
            obtain ⟨cB, fB, lB, eB, kB⟩ := Blk.facts bB
            obtain ⟨cX, fX, lX, eX, kX⟩ := Blk.facts bX
            obtain ⟨cY, fY, lY, eY, kY⟩ := Blk.facts bY
            have oY := lY
            go_upto_region 14 with fail
            obtain ⟨wY1, hX9⟩ : ∃ x9 : World, x9 = v1.setCell ⟨gY, 1, none⟩ (.int .i64 V2) := ⟨_, rfl⟩
            have hqX : Past [gs, gk] wr wY1 := by rw [hX9]; exact (by (repeat' (first | (with_reducible exact Kv1) | (with_reducible exact Past.refl _ _) | (with_reducible refine Past.drew ?_) | (with_reducible refine Past.drewN ?_ _) | (with_reducible refine Past.allocs ?_ _) | (with_reducible refine' Past.setIn ?_ ?_ _; rotate_left 1; (focus (simp; done))) | (with_reducible refine' Past.far ?_ ?_ _; rotate_left 1; (first | omega | (simp <;> omega))))))
            have bS' : Blk wY1 (gs) 4 cs := by rw [hX9]; exact (by (repeat' (first | (with_reducible exact bS) | (with_reducible refine' Blk.alloc ?_ _) | (with_reducible refine' Blk.drew ?_) | (with_reducible refine' Blk.drewN ?_ _) | (with_reducible refine' Blk.put ?_ ?_) | (with_reducible refine' Blk.far ?_ ?_ _) | exact bS | exact rfl)) <;> (first | omega | (simp <;> omega)))
            have bK' : Blk wY1 (gk) 44 cb := by rw [hX9]; exact (by (repeat' (first | (with_reducible exact bK) | (with_reducible refine' Blk.alloc ?_ _) | (with_reducible refine' Blk.drew ?_) | (with_reducible refine' Blk.drewN ?_ _) | (with_reducible refine' Blk.put ?_ ?_) | (with_reducible refine' Blk.far ?_ ?_ _) | exact bK | exact rfl)) <;> (first | omega | (simp <;> omega)))
            have bB' : Blk wY1 (gB) 51 #[.int .i64 sta, .int .i64 loc, .int .i64 p, .int .i64 li, .int .i64 0, .slice (some ⟨be9, oe9, none⟩) ns ecap, .slice (some ⟨bk9, off9, none⟩) nx scap] := by rw [hX9]; exact (by (repeat' (first | (with_reducible exact bB) | (with_reducible refine' Blk.alloc ?_ _) | (with_reducible refine' Blk.drew ?_) | (with_reducible refine' Blk.drewN ?_ _) | (with_reducible refine' Blk.put ?_ ?_) | (with_reducible refine' Blk.far ?_ ?_ _) | exact bB | exact rfl)) <;> (first | omega | (simp <;> omega)))
            have bX' : Blk wY1 (wr.heap.size) 56 #[.int .i64 src, .int .i64 tr, .int .i64 lo, .int .i64 ou, .int .i64 ol, .int .i64 ho, .int .i64 hl, .int .i64 ba, .int .i64 bl9, .int .i64 x2, .int .i64 x3] := by rw [hX9]; exact (by (repeat' (first | (with_reducible exact bX) | (with_reducible refine' Blk.alloc ?_ _) | (with_reducible refine' Blk.drew ?_) | (with_reducible refine' Blk.drewN ?_ _) | (with_reducible refine' Blk.put ?_ ?_) | (with_reducible refine' Blk.far ?_ ?_ _) | exact bX | exact rfl)) <;> (first | omega | (simp <;> omega)))
            have bY' : Blk wY1 (gY) 37 #[.int .i64 U1, .int .i64 V2, .int .i64 0, .int .i64 0, .int .i64 e0] := by rw [hX9]; exact (by have h9 := bY.set_ 1 (.int .i64 V2); simp only [List.setIfInBounds_toArray, List.set_cons_zero, List.set_cons_succ] at h9; exact h9)
            have ZwY1 : v1.heap.size ≤ wY1.heap.size := by rw [hX9]; first | omega | (simp; done) | (simp [setAll_size]; done) | (simp <;> omega)
            rw [← hX9]
            clear hX9 Kv1
            clear bS cS fS lS eS kS; have bS := bS'; clear bS'
            clear bK cK fK lK eK kK; have bK := bK'; clear bK'
            clear bB cB fB lB eB kB; have bB := bB'; clear bB'
            clear bX cX fX lX eX kX; have bX := bX'; clear bX'
            clear bY cY fY lY eY kY; have bY := bY'; clear bY'
            have hqXwY1 := hqX; clear hqX
            obtain ⟨cS, fS, lS, eS, kS⟩ := Blk.facts bS
            obtain ⟨cK, fK, lK, eK, kK⟩ := Blk.facts bK
            obtain ⟨cB, fB, lB, eB, kB⟩ := Blk.facts bB
            obtain ⟨cX, fX, lX, eX, kX⟩ := Blk.facts bX
            obtain ⟨cY, fY, lY, eY, kY⟩ := Blk.facts bY
            go_upto_region 15 with fail
            obtain ⟨wY2, hX9⟩ : ∃ x9 : World, x9 = wY1.setCell ⟨gY, 2, none⟩ (.int .i64 V3) := ⟨_, rfl⟩
            have hqX : Past [gs, gk] wr wY2 := by rw [hX9]; exact (by (repeat' (first | (with_reducible exact hqXwY1) | (with_reducible exact Past.refl _ _) | (with_reducible refine Past.drew ?_) | (with_reducible refine Past.drewN ?_ _) | (with_reducible refine Past.allocs ?_ _) | (with_reducible refine' Past.setIn ?_ ?_ _; rotate_left 1; (focus (simp; done))) | (with_reducible refine' Past.far ?_ ?_ _; rotate_left 1; (first | omega | (simp <;> omega))))))
            have bS' : Blk wY2 (gs) 4 cs := by rw [hX9]; exact (by (repeat' (first | (with_reducible exact bS) | (with_reducible refine' Blk.alloc ?_ _) | (with_reducible refine' Blk.drew ?_) | (with_reducible refine' Blk.drewN ?_ _) | (with_reducible refine' Blk.put ?_ ?_) | (with_reducible refine' Blk.far ?_ ?_ _) | exact bS | exact rfl)) <;> (first | omega | (simp <;> omega)))
            have bK' : Blk wY2 (gk) 44 cb := by rw [hX9]; exact (by (repeat' (first | (with_reducible exact bK) | (with_reducible refine' Blk.alloc ?_ _) | (with_reducible refine' Blk.drew ?_) | (with_reducible refine' Blk.drewN ?_ _) | (with_reducible refine' Blk.put ?_ ?_) | (with_reducible refine' Blk.far ?_ ?_ _) | exact bK | exact rfl)) <;> (first | omega | (simp <;> omega)))
            have bB' : Blk wY2 (gB) 51 #[.int .i64 sta, .int .i64 loc, .int .i64 p, .int .i64 li, .int .i64 0, .slice (some ⟨be9, oe9, none⟩) ns ecap, .slice (some ⟨bk9, off9, none⟩) nx scap] := by rw [hX9]; exact (by (repeat' (first | (with_reducible exact bB) | (with_reducible refine' Blk.alloc ?_ _) | (with_reducible refine' Blk.drew ?_) | (with_reducible refine' Blk.drewN ?_ _) | (with_reducible refine' Blk.put ?_ ?_) | (with_reducible refine' Blk.far ?_ ?_ _) | exact bB | exact rfl)) <;> (first | omega | (simp <;> omega)))
            have bX' : Blk wY2 (wr.heap.size) 56 #[.int .i64 src, .int .i64 tr, .int .i64 lo, .int .i64 ou, .int .i64 ol, .int .i64 ho, .int .i64 hl, .int .i64 ba, .int .i64 bl9, .int .i64 x2, .int .i64 x3] := by rw [hX9]; exact (by (repeat' (first | (with_reducible exact bX) | (with_reducible refine' Blk.alloc ?_ _) | (with_reducible refine' Blk.drew ?_) | (with_reducible refine' Blk.drewN ?_ _) | (with_reducible refine' Blk.put ?_ ?_) | (with_reducible refine' Blk.far ?_ ?_ _) | exact bX | exact rfl)) <;> (first | omega | (simp <;> omega)))
            have bY' : Blk wY2 (gY) 37 #[.int .i64 U1, .int .i64 V2, .int .i64 V3, .int .i64 0, .int .i64 e0] := by rw [hX9]; exact (by have h9 := bY.set_ 2 (.int .i64 V3); simp only [List.setIfInBounds_toArray, List.set_cons_zero, List.set_cons_succ] at h9; exact h9)
            have ZwY2 : wY1.heap.size ≤ wY2.heap.size := by rw [hX9]; first | omega | (simp; done) | (simp [setAll_size]; done) | (simp <;> omega)
            rw [← hX9]
            clear hX9 hqXwY1
            clear bS cS fS lS eS kS; have bS := bS'; clear bS'
            clear bK cK fK lK eK kK; have bK := bK'; clear bK'
            clear bB cB fB lB eB kB; have bB := bB'; clear bB'
            clear bX cX fX lX eX kX; have bX := bX'; clear bX'
            clear bY cY fY lY eY kY; have bY := bY'; clear bY'
            have hqXwY2 := hqX; clear hqX
            obtain ⟨cS, fS, lS, eS, kS⟩ := Blk.facts bS
            obtain ⟨cK, fK, lK, eK, kK⟩ := Blk.facts bK
            obtain ⟨cB, fB, lB, eB, kB⟩ := Blk.facts bB
            obtain ⟨cX, fX, lX, eX, kX⟩ := Blk.facts bX
            obtain ⟨cY, fY, lY, eY, kY⟩ := Blk.facts bY
            refine' wp_region_calmD (by kernel_rfl) (fun D u9 w' => w' = wY2.drew ∧ (D 26 = false → u9 26 = .int .i64 mt0) ∧ (D 27 = false → u9 27 = .int .i64 mu0)) (fun _ _ => True) [(Is _), (Is _), (Is _), (Is _), (Is _), (Is _), (Is _), (Is _), (Is _), (Is _), (Is _), (Is _), (Is _), (Is _), (Is _), (Is _), (Is _), (Is _), (Is _), (Is _), (Is _), (Is _), (Is _), (Is _), (Is _), (Is _), (Is _), (Is _)] [[], [], [1], [0, 2], [], [4], [3, 5], [], [7], [6, 8], [], [10], [9, 11], [], [], [14], [13, 15], [], [17], [16, 18], [], [20], [19, 21], [], [23], [22, 24], [12], [25]] rfl (calmB_of (by kernel_rfl)) (fun u => by (simp only [calmPut, Act.put, List.setIfInBounds_toArray, List.set_cons_zero, List.set_cons_succ, Nat.zero_add, Nat.reduceAdd]; rfl)) ?_ (calmKeep_cons keep_is' (calmKeep_cons keep_is' (calmKeep_cons keep_is' (calmKeep_cons keep_is' (calmKeep_cons keep_is' (calmKeep_cons keep_is' (calmKeep_cons keep_is' (calmKeep_cons keep_is' (calmKeep_cons keep_is' (calmKeep_cons keep_is' (calmKeep_cons keep_is' (calmKeep_cons keep_is' (calmKeep_cons keep_is' (calmKeep_cons keep_is' (calmKeep_cons keep_is' (calmKeep_cons keep_is' (calmKeep_cons keep_is' (calmKeep_cons keep_is' (calmKeep_cons keep_is' (calmKeep_cons keep_is' (calmKeep_cons keep_is' (calmKeep_cons keep_is' (calmKeep_cons keep_is' (calmKeep_cons keep_is' (calmKeep_cons keep_is' (calmKeep_cons keep_is' (calmKeep_cons keep_is' (calmKeep_cons keep_is' (calmKeep_nil))))))))))))))))))))))))))))) ?_ ?_
            · exact ⟨rfl, (fun _ => rfl), (fun _ => rfl)⟩
            rotate_left 28
            · skip
              refine dSteps_cons (fun uu wq D hd hn hn2 hC hk K hK => ?_) ?_
              · obtain ⟨rfl, hA9, hB9⟩ := hC
                replace hn := Lib.hid hn; replace hn2 := Lib.hid hn2
                clear hk
                have hu : uu 26 = .int .i64 mt0 := hA9 (hn.out 26 (calmReach_of (by decide) (by kernel_rfl)))
                simp only [hu] at hK ⊢
                have HU := Lib.hid hu; clear hu
                go_simp
                exact hK _ _ _ rfl ⟨rfl, hA9, hB9⟩ trivial rfl
              refine dSteps_cons (fun uu wq D hd hn hn2 hC hk K hK => ?_) ?_
              · obtain ⟨rfl, hA9, hB9⟩ := hC
                clear hn hn2
                clear hk
                go_simp
                exact hK _ _ _ rfl ⟨rfl, hA9, hB9⟩ trivial rfl
              refine dSteps_cons (fun uu wq D hd hn hn2 hC hk K hK => ?_) ?_
              · obtain ⟨rfl, hA9, hB9⟩ := hC
                clear hn hn2
                simp only [calmKnown, List.getElem?_cons_zero, List.getElem?_cons_succ, and_true, Is, Pure, Option.some.injEq, List.getD_cons_zero, List.getD_cons_succ, List.map_cons, List.map_nil] at hk
                have h1 := hk; clear hk
                simp only [h1] at hK ⊢
                have H1 := Lib.hid h1; clear h1
                have bXd := bX.drew; have cX9 := bXd.cell; have lX9 := bXd.lt
                go_simp
                exact hK _ _ _ rfl ⟨rfl, hA9, hB9⟩ trivial rfl
              refine dSteps_cons (fun uu wq D hd hn hn2 hC hk K hK => ?_) ?_
              · obtain ⟨rfl, hA9, hB9⟩ := hC
                clear hn hn2
                simp only [calmKnown, List.getElem?_cons_zero, List.getElem?_cons_succ, and_true, Is, Pure, Option.some.injEq, List.getD_cons_zero, List.getD_cons_succ, List.map_cons, List.map_nil] at hk
                obtain ⟨h0, h2⟩ := hk
                simp only [h0, h2] at hK ⊢
                have H0 := Lib.hid h0; clear h0; have H2 := Lib.hid h2; clear h2
                go_simp
                exact hK _ _ _ rfl ⟨rfl, hA9, hB9⟩ trivial rfl
              refine dSteps_cons (fun uu wq D hd hn hn2 hC hk K hK => ?_) ?_
              · obtain ⟨rfl, hA9, hB9⟩ := hC
                clear hn hn2
                clear hk
                go_simp
                exact hK _ _ _ rfl ⟨rfl, hA9, hB9⟩ trivial rfl
              refine dSteps_cons (fun uu wq D hd hn hn2 hC hk K hK => ?_) ?_
              · obtain ⟨rfl, hA9, hB9⟩ := hC
                clear hn hn2
                simp only [calmKnown, List.getElem?_cons_zero, List.getElem?_cons_succ, and_true, Is, Pure, Option.some.injEq, List.getD_cons_zero, List.getD_cons_succ, List.map_cons, List.map_nil] at hk
                have h4 := hk; clear hk
                simp only [h4] at hK ⊢
                have H4 := Lib.hid h4; clear h4
                have bXd := bX.drew; have cX9 := bXd.cell; have lX9 := bXd.lt
                go_simp
                exact hK _ _ _ rfl ⟨rfl, hA9, hB9⟩ trivial rfl
              refine dSteps_cons (fun uu wq D hd hn hn2 hC hk K hK => ?_) ?_
              · obtain ⟨rfl, hA9, hB9⟩ := hC
                clear hn hn2
                simp only [calmKnown, List.getElem?_cons_zero, List.getElem?_cons_succ, and_true, Is, Pure, Option.some.injEq, List.getD_cons_zero, List.getD_cons_succ, List.map_cons, List.map_nil] at hk
                obtain ⟨h3, h5⟩ := hk
                simp only [h3, h5] at hK ⊢
                have H3 := Lib.hid h3; clear h3; have H5 := Lib.hid h5; clear h5
                go_simp
                exact hK _ _ _ rfl ⟨rfl, hA9, hB9⟩ trivial rfl
              refine dSteps_cons (fun uu wq D hd hn hn2 hC hk K hK => ?_) ?_
              · obtain ⟨rfl, hA9, hB9⟩ := hC
                clear hn hn2
                clear hk
                go_simp
                exact hK _ _ _ rfl ⟨rfl, hA9, hB9⟩ trivial rfl
              refine dSteps_cons (fun uu wq D hd hn hn2 hC hk K hK => ?_) ?_
              · obtain ⟨rfl, hA9, hB9⟩ := hC
                clear hn hn2
                simp only [calmKnown, List.getElem?_cons_zero, List.getElem?_cons_succ, and_true, Is, Pure, Option.some.injEq, List.getD_cons_zero, List.getD_cons_succ, List.map_cons, List.map_nil] at hk
                have h7 := hk; clear hk
                simp only [h7] at hK ⊢
                have H7 := Lib.hid h7; clear h7
                have bXd := bX.drew; have cX9 := bXd.cell; have lX9 := bXd.lt
                go_simp
                exact hK _ _ _ rfl ⟨rfl, hA9, hB9⟩ trivial rfl
              refine dSteps_cons (fun uu wq D hd hn hn2 hC hk K hK => ?_) ?_
              · obtain ⟨rfl, hA9, hB9⟩ := hC
                clear hn hn2
                simp only [calmKnown, List.getElem?_cons_zero, List.getElem?_cons_succ, and_true, Is, Pure, Option.some.injEq, List.getD_cons_zero, List.getD_cons_succ, List.map_cons, List.map_nil] at hk
                obtain ⟨h6, h8⟩ := hk
                simp only [h6, h8] at hK ⊢
                have H6 := Lib.hid h6; clear h6; have H8 := Lib.hid h8; clear h8
                go_simp
                exact hK _ _ _ rfl ⟨rfl, hA9, hB9⟩ trivial rfl
              refine dSteps_cons (fun uu wq D hd hn hn2 hC hk K hK => ?_) ?_
              · obtain ⟨rfl, hA9, hB9⟩ := hC
                clear hn hn2
                clear hk
                go_simp
                exact hK _ _ _ rfl ⟨rfl, hA9, hB9⟩ trivial rfl
              refine dSteps_cons (fun uu wq D hd hn hn2 hC hk K hK => ?_) ?_
              · obtain ⟨rfl, hA9, hB9⟩ := hC
                clear hn hn2
                simp only [calmKnown, List.getElem?_cons_zero, List.getElem?_cons_succ, and_true, Is, Pure, Option.some.injEq, List.getD_cons_zero, List.getD_cons_succ, List.map_cons, List.map_nil] at hk
                have h10 := hk; clear hk
                simp only [h10] at hK ⊢
                have H10 := Lib.hid h10; clear h10
                have bXd := bX.drew; have cX9 := bXd.cell; have lX9 := bXd.lt
                go_simp
                exact hK _ _ _ rfl ⟨rfl, hA9, hB9⟩ trivial rfl
              refine dSteps_cons (fun uu wq D hd hn hn2 hC hk K hK => ?_) ?_
              · obtain ⟨rfl, hA9, hB9⟩ := hC
                clear hn hn2
                simp only [calmKnown, List.getElem?_cons_zero, List.getElem?_cons_succ, and_true, Is, Pure, Option.some.injEq, List.getD_cons_zero, List.getD_cons_succ, List.map_cons, List.map_nil] at hk
                obtain ⟨h9, h11⟩ := hk
                simp only [h9, h11] at hK ⊢
                have H9 := Lib.hid h9; clear h9; have H11 := Lib.hid h11; clear h11
                go_simp
                exact hK _ _ _ rfl ⟨rfl, hA9, hB9⟩ trivial rfl
              refine dSteps_cons (fun uu wq D hd hn hn2 hC hk K hK => ?_) ?_
              · obtain ⟨rfl, hA9, hB9⟩ := hC
                replace hn := Lib.hid hn; replace hn2 := Lib.hid hn2
                clear hk
                have hu : uu 27 = .int .i64 mu0 := hB9 (hn.out 27 (calmReach_of (by decide) (by kernel_rfl)))
                simp only [hu] at hK ⊢
                have HU := Lib.hid hu; clear hu
                go_simp
                exact hK _ _ _ rfl ⟨rfl, hA9, hB9⟩ trivial rfl
              refine dSteps_cons (fun uu wq D hd hn hn2 hC hk K hK => ?_) ?_
              · obtain ⟨rfl, hA9, hB9⟩ := hC
                clear hn hn2
                clear hk
                go_simp
                exact hK _ _ _ rfl ⟨rfl, hA9, hB9⟩ trivial rfl
              refine dSteps_cons (fun uu wq D hd hn hn2 hC hk K hK => ?_) ?_
              · obtain ⟨rfl, hA9, hB9⟩ := hC
                clear hn hn2
                simp only [calmKnown, List.getElem?_cons_zero, List.getElem?_cons_succ, and_true, Is, Pure, Option.some.injEq, List.getD_cons_zero, List.getD_cons_succ, List.map_cons, List.map_nil] at hk
                have h14 := hk; clear hk
                simp only [h14] at hK ⊢
                have H14 := Lib.hid h14; clear h14
                have bXd := bX.drew; have cX9 := bXd.cell; have lX9 := bXd.lt
                go_simp
                exact hK _ _ _ rfl ⟨rfl, hA9, hB9⟩ trivial rfl
              refine dSteps_cons (fun uu wq D hd hn hn2 hC hk K hK => ?_) ?_
              · obtain ⟨rfl, hA9, hB9⟩ := hC
                clear hn hn2
                simp only [calmKnown, List.getElem?_cons_zero, List.getElem?_cons_succ, and_true, Is, Pure, Option.some.injEq, List.getD_cons_zero, List.getD_cons_succ, List.map_cons, List.map_nil] at hk
                obtain ⟨h13, h15⟩ := hk
                simp only [h13, h15] at hK ⊢
                have H13 := Lib.hid h13; clear h13; have H15 := Lib.hid h15; clear h15
                go_simp
                exact hK _ _ _ rfl ⟨rfl, hA9, hB9⟩ trivial rfl
              refine dSteps_cons (fun uu wq D hd hn hn2 hC hk K hK => ?_) ?_
              · obtain ⟨rfl, hA9, hB9⟩ := hC
                clear hn hn2
                clear hk
                go_simp
                exact hK _ _ _ rfl ⟨rfl, hA9, hB9⟩ trivial rfl
              refine dSteps_cons (fun uu wq D hd hn hn2 hC hk K hK => ?_) ?_
              · obtain ⟨rfl, hA9, hB9⟩ := hC
                clear hn hn2
                simp only [calmKnown, List.getElem?_cons_zero, List.getElem?_cons_succ, and_true, Is, Pure, Option.some.injEq, List.getD_cons_zero, List.getD_cons_succ, List.map_cons, List.map_nil] at hk
                have h17 := hk; clear hk
                simp only [h17] at hK ⊢
                have H17 := Lib.hid h17; clear h17
                have bXd := bX.drew; have cX9 := bXd.cell; have lX9 := bXd.lt
                go_simp
                exact hK _ _ _ rfl ⟨rfl, hA9, hB9⟩ trivial rfl
              refine dSteps_cons (fun uu wq D hd hn hn2 hC hk K hK => ?_) ?_
              · obtain ⟨rfl, hA9, hB9⟩ := hC
                clear hn hn2
                simp only [calmKnown, List.getElem?_cons_zero, List.getElem?_cons_succ, and_true, Is, Pure, Option.some.injEq, List.getD_cons_zero, List.getD_cons_succ, List.map_cons, List.map_nil] at hk
                obtain ⟨h16, h18⟩ := hk
                simp only [h16, h18] at hK ⊢
                have H16 := Lib.hid h16; clear h16; have H18 := Lib.hid h18; clear h18
                go_simp
                exact hK _ _ _ rfl ⟨rfl, hA9, hB9⟩ trivial rfl
              refine dSteps_cons (fun uu wq D hd hn hn2 hC hk K hK => ?_) ?_
              · obtain ⟨rfl, hA9, hB9⟩ := hC
                clear hn hn2
                clear hk
                go_simp
                exact hK _ _ _ rfl ⟨rfl, hA9, hB9⟩ trivial rfl
              refine dSteps_cons (fun uu wq D hd hn hn2 hC hk K hK => ?_) ?_
              · obtain ⟨rfl, hA9, hB9⟩ := hC
                clear hn hn2
                simp only [calmKnown, List.getElem?_cons_zero, List.getElem?_cons_succ, and_true, Is, Pure, Option.some.injEq, List.getD_cons_zero, List.getD_cons_succ, List.map_cons, List.map_nil] at hk
                have h20 := hk; clear hk
                simp only [h20] at hK ⊢
                have H20 := Lib.hid h20; clear h20
                have bXd := bX.drew; have cX9 := bXd.cell; have lX9 := bXd.lt
                go_simp
                exact hK _ _ _ rfl ⟨rfl, hA9, hB9⟩ trivial rfl
              refine dSteps_cons (fun uu wq D hd hn hn2 hC hk K hK => ?_) ?_
              · obtain ⟨rfl, hA9, hB9⟩ := hC
                clear hn hn2
                simp only [calmKnown, List.getElem?_cons_zero, List.getElem?_cons_succ, and_true, Is, Pure, Option.some.injEq, List.getD_cons_zero, List.getD_cons_succ, List.map_cons, List.map_nil] at hk
                obtain ⟨h19, h21⟩ := hk
                simp only [h19, h21] at hK ⊢
                have H19 := Lib.hid h19; clear h19; have H21 := Lib.hid h21; clear h21
                go_simp
                exact hK _ _ _ rfl ⟨rfl, hA9, hB9⟩ trivial rfl
              refine dSteps_cons (fun uu wq D hd hn hn2 hC hk K hK => ?_) ?_
              · obtain ⟨rfl, hA9, hB9⟩ := hC
                clear hn hn2
                clear hk
                go_simp
                exact hK _ _ _ rfl ⟨rfl, hA9, hB9⟩ trivial rfl
              refine dSteps_cons (fun uu wq D hd hn hn2 hC hk K hK => ?_) ?_
              · obtain ⟨rfl, hA9, hB9⟩ := hC
                clear hn hn2
                simp only [calmKnown, List.getElem?_cons_zero, List.getElem?_cons_succ, and_true, Is, Pure, Option.some.injEq, List.getD_cons_zero, List.getD_cons_succ, List.map_cons, List.map_nil] at hk
                have h23 := hk; clear hk
                simp only [h23] at hK ⊢
                have H23 := Lib.hid h23; clear h23
                have bXd := bX.drew; have cX9 := bXd.cell; have lX9 := bXd.lt
                go_simp
                exact hK _ _ _ rfl ⟨rfl, hA9, hB9⟩ trivial rfl
              refine dSteps_cons (fun uu wq D hd hn hn2 hC hk K hK => ?_) ?_
              · obtain ⟨rfl, hA9, hB9⟩ := hC
                clear hn hn2
                simp only [calmKnown, List.getElem?_cons_zero, List.getElem?_cons_succ, and_true, Is, Pure, Option.some.injEq, List.getD_cons_zero, List.getD_cons_succ, List.map_cons, List.map_nil] at hk
                obtain ⟨h22, h24⟩ := hk
                simp only [h22, h24] at hK ⊢
                have H22 := Lib.hid h22; clear h22; have H24 := Lib.hid h24; clear h24
                go_simp
                exact hK _ _ _ rfl ⟨rfl, hA9, hB9⟩ trivial rfl
              refine dSteps_cons (fun uu wq D hd hn hn2 hC hk K hK => ?_) ?_
              · obtain ⟨rfl, hA9, hB9⟩ := hC
                clear hn hn2
                simp only [calmKnown, List.getElem?_cons_zero, List.getElem?_cons_succ, and_true, Is, Pure, Option.some.injEq, List.getD_cons_zero, List.getD_cons_succ, List.map_cons, List.map_nil] at hk
                have h12 := hk; clear hk
                simp only [h12] at hK ⊢
                have H12 := Lib.hid h12; clear h12
                go_simp
                exact hK _ _ _ rfl ⟨rfl, (fun h => by cases h), hB9⟩ trivial rfl
              refine dSteps_cons (fun uu wq D hd hn hn2 hC hk K hK => ?_) ?_
              · obtain ⟨rfl, hA9, hB9⟩ := hC
                clear hn hn2
                simp only [calmKnown, List.getElem?_cons_zero, List.getElem?_cons_succ, and_true, Is, Pure, Option.some.injEq, List.getD_cons_zero, List.getD_cons_succ, List.map_cons, List.map_nil] at hk
                have h25 := hk; clear hk
                simp only [h25] at hK ⊢
                have H25 := Lib.hid h25; clear h25
                go_simp
                exact hK _ _ _ rfl ⟨rfl, hA9, (fun h => by cases h)⟩ trivial rfl
              exact dSteps_nil
            · intro uu wz15 D hD hC hF
              obtain ⟨rfl, hA9, hB9⟩ := hC
              simp only [calmFacts, Is, and_true, true_and] at hF
              obtain ⟨f0, f1, f2, f3, f4, f5, f6, f7, f8, f9, f10, f11, f12, f13, f14, f15, f16, f17, f18, f19, f20, f21, f22, f23, f24, f25, f26, f27⟩ := hF
              simp only [f0, f1, f2, f3, f4, f5, f6, f7, f8, f9, f10, f11, f12, f13, f14, f15, f16, f17, f18, f19, f20, f21, f22, f23, f24, f25, f26, f27]
              clear hA9 hB9 hD
              go_upto_region 17 with fail
              obtain ⟨wY3, hX9⟩ : ∃ x9 : World, x9 = (wY2.setCell ⟨gY, 3, none⟩ (.int .i64 U4)).drew := ⟨_, rfl⟩
              have hqX : Past [gs, gk] wr wY3 := by rw [hX9]; exact (by (repeat' (first | (with_reducible exact hqXwY2) | (with_reducible exact Past.refl _ _) | (with_reducible refine Past.drew ?_) | (with_reducible refine Past.drewN ?_ _) | (with_reducible refine Past.allocs ?_ _) | (with_reducible refine' Past.setIn ?_ ?_ _; rotate_left 1; (focus (simp; done))) | (with_reducible refine' Past.far ?_ ?_ _; rotate_left 1; (first | omega | (simp <;> omega))))))
              have bS' : Blk wY3 (gs) 4 cs := by rw [hX9]; exact (by (repeat' (first | (with_reducible exact bS) | (with_reducible refine' Blk.alloc ?_ _) | (with_reducible refine' Blk.drew ?_) | (with_reducible refine' Blk.drewN ?_ _) | (with_reducible refine' Blk.put ?_ ?_) | (with_reducible refine' Blk.far ?_ ?_ _) | exact bS | exact rfl)) <;> (first | omega | (simp <;> omega)))
              have bK' : Blk wY3 (gk) 44 cb := by rw [hX9]; exact (by (repeat' (first | (with_reducible exact bK) | (with_reducible refine' Blk.alloc ?_ _) | (with_reducible refine' Blk.drew ?_) | (with_reducible refine' Blk.drewN ?_ _) | (with_reducible refine' Blk.put ?_ ?_) | (with_reducible refine' Blk.far ?_ ?_ _) | exact bK | exact rfl)) <;> (first | omega | (simp <;> omega)))
              have bB' : Blk wY3 (gB) 51 #[.int .i64 sta, .int .i64 loc, .int .i64 p, .int .i64 li, .int .i64 0, .slice (some ⟨be9, oe9, none⟩) ns ecap, .slice (some ⟨bk9, off9, none⟩) nx scap] := by rw [hX9]; exact (by (repeat' (first | (with_reducible exact bB) | (with_reducible refine' Blk.alloc ?_ _) | (with_reducible refine' Blk.drew ?_) | (with_reducible refine' Blk.drewN ?_ _) | (with_reducible refine' Blk.put ?_ ?_) | (with_reducible refine' Blk.far ?_ ?_ _) | exact bB | exact rfl)) <;> (first | omega | (simp <;> omega)))
              have bX' : Blk wY3 (wr.heap.size) 56 #[.int .i64 src, .int .i64 tr, .int .i64 lo, .int .i64 ou, .int .i64 ol, .int .i64 ho, .int .i64 hl, .int .i64 ba, .int .i64 bl9, .int .i64 x2, .int .i64 x3] := by rw [hX9]; exact (by (repeat' (first | (with_reducible exact bX) | (with_reducible refine' Blk.alloc ?_ _) | (with_reducible refine' Blk.drew ?_) | (with_reducible refine' Blk.drewN ?_ _) | (with_reducible refine' Blk.put ?_ ?_) | (with_reducible refine' Blk.far ?_ ?_ _) | exact bX | exact rfl)) <;> (first | omega | (simp <;> omega)))
              have bY' : Blk wY3 (gY) 37 #[.int .i64 U1, .int .i64 V2, .int .i64 V3, .int .i64 U4, .int .i64 e0] := by rw [hX9]; exact (by have h9 := bY.set_ 3 (.int .i64 U4); simp only [List.setIfInBounds_toArray, List.set_cons_zero, List.set_cons_succ] at h9; exact h9.drew)
              have ZwY3 : wY2.heap.size ≤ wY3.heap.size := by rw [hX9]; first | omega | (simp; done) | (simp [setAll_size]; done) | (simp <;> omega)
              rw [← hX9]
              clear hX9 hqXwY2
              clear bS cS fS lS eS kS; have bS := bS'; clear bS'
              clear bK cK fK lK eK kK; have bK := bK'; clear bK'
              clear bB cB fB lB eB kB; have bB := bB'; clear bB'
              clear bX cX fX lX eX kX; have bX := bX'; clear bX'
              clear bY cY fY lY eY kY; have bY := bY'; clear bY'
              have hqXwY3 := hqX; clear hqX
              obtain ⟨cS, fS, lS, eS, kS⟩ := Blk.facts bS
              obtain ⟨cK, fK, lK, eK, kK⟩ := Blk.facts bK
              obtain ⟨cB, fB, lB, eB, kB⟩ := Blk.facts bB
              obtain ⟨cX, fX, lX, eX, kX⟩ := Blk.facts bX
              obtain ⟨cY, fY, lY, eY, kY⟩ := Blk.facts bY
              clear w1_ w2_ w3_ w4_ w5_ w6_ w7_ w8_ w9_ w10_ de
              go_wp2_with fail
              refine (R9.out _ _ (NumsR.newE [(src : Int), U1, V2, V3, U4, e0] (by first | rfl | (simp; done)))).mono ?_
              rintro e v2 ⟨rfl, hb⟩
              have hq : Past [gs, gk] _ v2 := Past.below hb
              have hq0 : Past [] _ v2 := Past.below hb
              clear hb
              have Kv2 : Past [gs, gk] wr v2 := Past.trans (by (repeat' (first | (with_reducible exact hqXwY3) | (with_reducible exact Past.refl _ _) | (with_reducible refine Past.drew ?_) | (with_reducible refine Past.drewN ?_ _) | (with_reducible refine Past.allocs ?_ _) | (with_reducible refine' Past.setIn ?_ ?_ _; rotate_left 1; (focus (simp; done))) | (with_reducible refine' Past.far ?_ ?_ _; rotate_left 1; (first | omega | (simp <;> omega)))))) hq
              have Zv2 : wY3.heap.size ≤ v2.heap.size := Nat.le_trans (by first | exact Nat.le_refl _ | omega | (simp <;> omega)) hq.1
              have bS' : Blk v2 (gs) 4 cs := hq0.blk ((by (repeat' (first | (with_reducible exact bS) | (with_reducible refine' Blk.alloc ?_ _) | (with_reducible refine' Blk.drew ?_) | (with_reducible refine' Blk.drewN ?_ _) | (with_reducible refine' Blk.put ?_ ?_) | (with_reducible refine' Blk.far ?_ ?_ _) | exact bS | exact rfl)) <;> (first | omega | (simp <;> omega)))) (by simp <;> omega)
              have bK' : Blk v2 (gk) 44 cb := hq0.blk ((by (repeat' (first | (with_reducible exact bK) | (with_reducible refine' Blk.alloc ?_ _) | (with_reducible refine' Blk.drew ?_) | (with_reducible refine' Blk.drewN ?_ _) | (with_reducible refine' Blk.put ?_ ?_) | (with_reducible refine' Blk.far ?_ ?_ _) | exact bK | exact rfl)) <;> (first | omega | (simp <;> omega)))) (by simp <;> omega)
              have bB' : Blk v2 (gB) 51 #[.int .i64 sta, .int .i64 loc, .int .i64 p, .int .i64 li, .int .i64 0, .slice (some ⟨be9, oe9, none⟩) ns ecap, .slice (some ⟨bk9, off9, none⟩) nx scap] := hq0.blk ((by (repeat' (first | (with_reducible exact bB) | (with_reducible refine' Blk.alloc ?_ _) | (with_reducible refine' Blk.drew ?_) | (with_reducible refine' Blk.drewN ?_ _) | (with_reducible refine' Blk.put ?_ ?_) | (with_reducible refine' Blk.far ?_ ?_ _) | exact bB | exact rfl)) <;> (first | omega | (simp <;> omega)))) (by simp <;> omega)
              have bX' : Blk v2 (wr.heap.size) 56 #[.int .i64 src, .int .i64 tr, .int .i64 lo, .int .i64 ou, .int .i64 ol, .int .i64 ho, .int .i64 hl, .int .i64 ba, .int .i64 bl9, .int .i64 x2, .int .i64 x3] := hq0.blk ((by (repeat' (first | (with_reducible exact bX) | (with_reducible refine' Blk.alloc ?_ _) | (with_reducible refine' Blk.drew ?_) | (with_reducible refine' Blk.drewN ?_ _) | (with_reducible refine' Blk.put ?_ ?_) | (with_reducible refine' Blk.far ?_ ?_ _) | exact bX | exact rfl)) <;> (first | omega | (simp <;> omega)))) (by simp <;> omega)
              have bY' : Blk v2 (gY) 37 #[.int .i64 U1, .int .i64 V2, .int .i64 V3, .int .i64 U4, .int .i64 e0] := hq0.blk ((by (repeat' (first | (with_reducible exact bY) | (with_reducible refine' Blk.alloc ?_ _) | (with_reducible refine' Blk.drew ?_) | (with_reducible refine' Blk.drewN ?_ _) | (with_reducible refine' Blk.put ?_ ?_) | (with_reducible refine' Blk.far ?_ ?_ _) | exact bY | exact rfl)) <;> (first | omega | (simp <;> omega)))) (by simp <;> omega)
              clear hq hqXwY3
              clear bS cS fS lS eS kS; have bS := bS'; clear bS'
              clear bK cK fK lK eK kK; have bK := bK'; clear bK'
              clear bB cB fB lB eB kB; have bB := bB'; clear bB'
              clear bX cX fX lX eX kX; have bX := bX'; clear bX'
              clear bY cY fY lY eY kY; have bY := bY'; clear bY'
              obtain ⟨cS, fS, lS, eS, kS⟩ := Blk.facts bS
              obtain ⟨cK, fK, lK, eK, kK⟩ := Blk.facts bK
              obtain ⟨cB, fB, lB, eB, kB⟩ := Blk.facts bB
              obtain ⟨cX, fX, lX, eX, kX⟩ := Blk.facts bX
              obtain ⟨cY, fY, lY, eY, kY⟩ := Blk.facts bY
              clear hq0
              have HAT := Lib.hid (fun W => (atT_V U1 V2 V3 U4 e0 p) ▸ at_any U1 V2 V3 U4 e0 p W)
              rw [HAT0.out] at HAT
              have HAT2 : Hid (∀ W, Calls Tryz.prog 20 #[.agg #[.int .i64 U1, .int .i64 V2, .int .i64 V3, .int .i64 U4, .int .i64 e0], .int .i64 p] W (RB W (.tuple #[.agg #[.int .i64 a0, .int .i64 a1], .int .i64 ae]))) := Lib.hid HAT.out
              clear HAT HAT0 HSM R9
              go_wp2_with fail
              refine (HAT2.out _).mono ?_
              rintro e v3 ⟨rfl, hb⟩
              have hq : Past [gs, gk] _ v3 := Past.below hb
              have hq0 : Past [] _ v3 := Past.below hb
              clear hb
              have Kv3 : Past [gs, gk] wr v3 := Past.trans (by (repeat' (first | (with_reducible exact Kv2) | (with_reducible exact Past.refl _ _) | (with_reducible refine Past.drew ?_) | (with_reducible refine Past.drewN ?_ _) | (with_reducible refine Past.allocs ?_ _) | (with_reducible refine' Past.setIn ?_ ?_ _; rotate_left 1; (focus (simp; done))) | (with_reducible refine' Past.far ?_ ?_ _; rotate_left 1; (first | omega | (simp <;> omega)))))) hq
              have Zv3 : v2.heap.size ≤ v3.heap.size := Nat.le_trans (by first | exact Nat.le_refl _ | omega | (simp <;> omega)) hq.1
              have bS' : Blk v3 (gs) 4 cs := hq0.blk ((by (repeat' (first | (with_reducible exact bS) | (with_reducible refine' Blk.alloc ?_ _) | (with_reducible refine' Blk.drew ?_) | (with_reducible refine' Blk.drewN ?_ _) | (with_reducible refine' Blk.put ?_ ?_) | (with_reducible refine' Blk.far ?_ ?_ _) | exact bS | exact rfl)) <;> (first | omega | (simp <;> omega)))) (by simp <;> omega)
              have bK' : Blk v3 (gk) 44 cb := hq0.blk ((by (repeat' (first | (with_reducible exact bK) | (with_reducible refine' Blk.alloc ?_ _) | (with_reducible refine' Blk.drew ?_) | (with_reducible refine' Blk.drewN ?_ _) | (with_reducible refine' Blk.put ?_ ?_) | (with_reducible refine' Blk.far ?_ ?_ _) | exact bK | exact rfl)) <;> (first | omega | (simp <;> omega)))) (by simp <;> omega)
              have bB' : Blk v3 (gB) 51 #[.int .i64 sta, .int .i64 loc, .int .i64 p, .int .i64 li, .int .i64 0, .slice (some ⟨be9, oe9, none⟩) ns ecap, .slice (some ⟨bk9, off9, none⟩) nx scap] := hq0.blk ((by (repeat' (first | (with_reducible exact bB) | (with_reducible refine' Blk.alloc ?_ _) | (with_reducible refine' Blk.drew ?_) | (with_reducible refine' Blk.drewN ?_ _) | (with_reducible refine' Blk.put ?_ ?_) | (with_reducible refine' Blk.far ?_ ?_ _) | exact bB | exact rfl)) <;> (first | omega | (simp <;> omega)))) (by simp <;> omega)
              have bX' : Blk v3 (wr.heap.size) 56 #[.int .i64 src, .int .i64 tr, .int .i64 lo, .int .i64 ou, .int .i64 ol, .int .i64 ho, .int .i64 hl, .int .i64 ba, .int .i64 bl9, .int .i64 x2, .int .i64 x3] := hq0.blk ((by (repeat' (first | (with_reducible exact bX) | (with_reducible refine' Blk.alloc ?_ _) | (with_reducible refine' Blk.drew ?_) | (with_reducible refine' Blk.drewN ?_ _) | (with_reducible refine' Blk.put ?_ ?_) | (with_reducible refine' Blk.far ?_ ?_ _) | exact bX | exact rfl)) <;> (first | omega | (simp <;> omega)))) (by simp <;> omega)
              have bY' : Blk v3 (gY) 37 #[.int .i64 U1, .int .i64 V2, .int .i64 V3, .int .i64 U4, .int .i64 e0] := hq0.blk ((by (repeat' (first | (with_reducible exact bY) | (with_reducible refine' Blk.alloc ?_ _) | (with_reducible refine' Blk.drew ?_) | (with_reducible refine' Blk.drewN ?_ _) | (with_reducible refine' Blk.put ?_ ?_) | (with_reducible refine' Blk.far ?_ ?_ _) | exact bY | exact rfl)) <;> (first | omega | (simp <;> omega)))) (by simp <;> omega)
              clear hq Kv2
              clear bS cS fS lS eS kS; have bS := bS'; clear bS'
              clear bK cK fK lK eK kK; have bK := bK'; clear bK'
              clear bB cB fB lB eB kB; have bB := bB'; clear bB'
              clear bX cX fX lX eX kX; have bX := bX'; clear bX'
              clear bY cY fY lY eY kY; have bY := bY'; clear bY'
              obtain ⟨cS, fS, lS, eS, kS⟩ := Blk.facts bS
              obtain ⟨cK, fK, lK, eK, kK⟩ := Blk.facts bK
              obtain ⟨cB, fB, lB, eB, kB⟩ := Blk.facts bB
              obtain ⟨cX, fX, lX, eX, kX⟩ := Blk.facts bX
              obtain ⟨cY, fY, lY, eY, kY⟩ := Blk.facts bY
              clear hq0
              go_upto_region 19 with fail
              obtain ⟨wZ, hX9⟩ : ∃ x9 : World, x9 = v3.alloc (.cells #[.int .i64 a0, .int .i64 a1] 40) := ⟨_, rfl⟩
              have hqX : Past [gs, gk] wr wZ := by rw [hX9]; exact (by (repeat' (first | (with_reducible exact Kv3) | (with_reducible exact Past.refl _ _) | (with_reducible refine Past.drew ?_) | (with_reducible refine Past.drewN ?_ _) | (with_reducible refine Past.allocs ?_ _) | (with_reducible refine' Past.setIn ?_ ?_ _; rotate_left 1; (focus (simp; done))) | (with_reducible refine' Past.far ?_ ?_ _; rotate_left 1; (first | omega | (simp <;> omega))))))
              have bS' : Blk wZ (gs) 4 cs := by rw [hX9]; exact (by (repeat' (first | (with_reducible exact bS) | (with_reducible refine' Blk.alloc ?_ _) | (with_reducible refine' Blk.drew ?_) | (with_reducible refine' Blk.drewN ?_ _) | (with_reducible refine' Blk.put ?_ ?_) | (with_reducible refine' Blk.far ?_ ?_ _) | exact bS | exact rfl)) <;> (first | omega | (simp <;> omega)))
              have bK' : Blk wZ (gk) 44 cb := by rw [hX9]; exact (by (repeat' (first | (with_reducible exact bK) | (with_reducible refine' Blk.alloc ?_ _) | (with_reducible refine' Blk.drew ?_) | (with_reducible refine' Blk.drewN ?_ _) | (with_reducible refine' Blk.put ?_ ?_) | (with_reducible refine' Blk.far ?_ ?_ _) | exact bK | exact rfl)) <;> (first | omega | (simp <;> omega)))
              have bB' : Blk wZ (gB) 51 #[.int .i64 sta, .int .i64 loc, .int .i64 p, .int .i64 li, .int .i64 0, .slice (some ⟨be9, oe9, none⟩) ns ecap, .slice (some ⟨bk9, off9, none⟩) nx scap] := by rw [hX9]; exact (by (repeat' (first | (with_reducible exact bB) | (with_reducible refine' Blk.alloc ?_ _) | (with_reducible refine' Blk.drew ?_) | (with_reducible refine' Blk.drewN ?_ _) | (with_reducible refine' Blk.put ?_ ?_) | (with_reducible refine' Blk.far ?_ ?_ _) | exact bB | exact rfl)) <;> (first | omega | (simp <;> omega)))
              have bX' : Blk wZ (wr.heap.size) 56 #[.int .i64 src, .int .i64 tr, .int .i64 lo, .int .i64 ou, .int .i64 ol, .int .i64 ho, .int .i64 hl, .int .i64 ba, .int .i64 bl9, .int .i64 x2, .int .i64 x3] := by rw [hX9]; exact (by (repeat' (first | (with_reducible exact bX) | (with_reducible refine' Blk.alloc ?_ _) | (with_reducible refine' Blk.drew ?_) | (with_reducible refine' Blk.drewN ?_ _) | (with_reducible refine' Blk.put ?_ ?_) | (with_reducible refine' Blk.far ?_ ?_ _) | exact bX | exact rfl)) <;> (first | omega | (simp <;> omega)))
              have bY' : Blk wZ (gY) 37 #[.int .i64 U1, .int .i64 V2, .int .i64 V3, .int .i64 U4, .int .i64 e0] := by rw [hX9]; exact (by (repeat' (first | (with_reducible exact bY) | (with_reducible refine' Blk.alloc ?_ _) | (with_reducible refine' Blk.drew ?_) | (with_reducible refine' Blk.drewN ?_ _) | (with_reducible refine' Blk.put ?_ ?_) | (with_reducible refine' Blk.far ?_ ?_ _) | exact bY | exact rfl)) <;> (first | omega | (simp <;> omega)))
              have bN' : Blk wZ (v3.heap.size) 40 #[.int .i64 a0, .int .i64 a1] := by rw [hX9]; exact Blk.new _ _ _
              have ZwZ : v3.heap.size + 1 ≤ wZ.heap.size := by rw [hX9]; first | omega | (simp; done) | (simp [setAll_size]; done) | (simp <;> omega)
              rw [← hX9]
              clear hX9 Kv3
              clear bS cS fS lS eS kS; have bS := bS'; clear bS'
              clear bK cK fK lK eK kK; have bK := bK'; clear bK'
              clear bB cB fB lB eB kB; have bB := bB'; clear bB'
              clear bX cX fX lX eX kX; have bX := bX'; clear bX'
              clear bY cY fY lY eY kY; have bY := bY'; clear bY'
              have bN := bN'; clear bN'
              have hqXwZ := hqX; clear hqX
              obtain ⟨cS, fS, lS, eS, kS⟩ := Blk.facts bS
              obtain ⟨cK, fK, lK, eK, kK⟩ := Blk.facts bK
              obtain ⟨cB, fB, lB, eB, kB⟩ := Blk.facts bB
              obtain ⟨cX, fX, lX, eX, kX⟩ := Blk.facts bX
              obtain ⟨cY, fY, lY, eY, kY⟩ := Blk.facts bY
              obtain ⟨cN, fN, lN, eN, kN⟩ := Blk.facts bN
              have oN := lN
              by_cases hae : ae = 0
              rotate_left
              · have ge1 : (ae == 0) = false := by simpa using hae
                have ge2 : (ae != 0) = true := by simpa using hae
                have HKS2 := Lib.hid (show KsAt cs cb m'.by_ from by rw [HB2.out hae]; exact HKS.out)
                go_wp2
                go_roundg (nx - (q + 1))
                case measure => omega
                case rel => exact ⟨q + 1, m', ls ++ [lnW wSample [(src : Int), U1, V2, V3, U4, e0]], cs, cb, by omega, by omega, by go_num, HTS2.out, by rw [lns_one, HTX.out, HL9.out]; (first | rfl | (simp [ByteArray.mk_append_mk]; done)), by rw [HT'.out], by rw [HU'.out], (by (repeat' (first | (with_reducible exact bS) | (with_reducible refine' Blk.alloc ?_ _) | (with_reducible refine' Blk.drew ?_) | (with_reducible refine' Blk.drewN ?_ _) | (with_reducible refine' Blk.put ?_ ?_) | (with_reducible refine' Blk.far ?_ ?_ _) | exact bS | exact rfl)) <;> (first | omega | (simp <;> omega))), (by (repeat' (first | (with_reducible exact bK) | (with_reducible refine' Blk.alloc ?_ _) | (with_reducible refine' Blk.drew ?_) | (with_reducible refine' Blk.drewN ?_ _) | (with_reducible refine' Blk.put ?_ ?_) | (with_reducible refine' Blk.far ?_ ?_ _) | exact bK | exact rfl)) <;> (first | omega | (simp <;> omega))), HKS2.out, (by (repeat' (first | (with_reducible exact bB) | (with_reducible refine' Blk.alloc ?_ _) | (with_reducible refine' Blk.drew ?_) | (with_reducible refine' Blk.drewN ?_ _) | (with_reducible refine' Blk.put ?_ ?_) | (with_reducible refine' Blk.far ?_ ?_ _) | exact bB | exact rfl)) <;> (first | omega | (simp <;> omega))), by (have := hqXwZ.1; first | omega | (simp; omega) | (simp at this ⊢; omega)), Past.belowX HKR.out (by (repeat' (first | (with_reducible exact hqXwZ) | (with_reducible exact Past.refl _ _) | (with_reducible refine Past.drew ?_) | (with_reducible refine Past.drewN ?_ _) | (with_reducible refine Past.allocs ?_ _) | (with_reducible refine' Past.setIn ?_ ?_ _; rotate_left 1; (focus (simp; done))) | (with_reducible refine' Past.far ?_ ?_ _; rotate_left 1; (first | omega | (simp <;> omega)))))) HWQ.out⟩
              subst hae
              have hc := HKS.out.2.2 src (by rw [HBL.out]; exact hsrcn)
              obtain ⟨hc1, hc2⟩ := hc
              have q0 := hc2 0 (by omega); have q1 := hc2 1 (by omega); have q2 := hc2 2 (by omega); have q3 := hc2 3 (by omega); have q4 := hc2 4 (by omega); have q5 := hc2 5 (by omega)
              have hput := fun k => HKS.out.put (q := src) (by rw [HBL.out]; exact hsrcn) k
              have hsame := HKS.out.same (q := src) (by rw [HBL.out]; exact hsrcn)
              have hb1 := HB1.out rfl; have hle := HLE.out rfl
              obtain ⟨kv, hkv⟩ : ∃ kv, m.by_.getD src (false, .zero) = kv := ⟨_, rfl⟩
              simp only [hkv] at hc1 q0 q1 q2 q3 q4 q5 hle hsame hb1
              clear hc2 hkv
              obtain ⟨b, ka, klo, khi, kp, kle, kre⟩ := kv
              simp only [K6.cs, List.getElem?_cons_zero, List.getElem?_cons_succ, Nat.add_zero] at q0 q1 q2 q3 q4 q5
              dsimp only at hc1 hle hsame
              have HLE2 := Lib.hid hle; have HPUT := Lib.hid hput; have HSAME := Lib.hid hsame; have HB3 := Lib.hid hb1; clear hle hput hsame hb1 HLE HB1 HB2
              have cs1 := (bS.cell src).trans hc1
              cases b with
              | false =>
                have rb := fun W => begK_V U4 a0 a1 p ▸ ibegin_any U4 a0 a1 p W
                have hk9 : takeK (false, ⟨ka, klo, khi, kp, kle, kre⟩) U4 a0 a1 p = (true, begK U4 a0 a1 p) := rfl
                have hb3 := HB3.out
                rw [hk9] at hb3
                obtain ⟨nk, hnk⟩ : ∃ nk, begK U4 a0 a1 p = nk := ⟨_, rfl⟩
                rw [hnk] at rb hb3
                have hput2 := HPUT.out nk
                rw [← hb3] at hput2
                obtain ⟨na, nlo, nhi, np, nle, nre⟩ := nk
                simp only [K6.cs] at rb hput2
                have RB1 := Lib.hid rb; have HPUT2 := Lib.hid hput2
                clear hk9 hnk rb hput2 hb3
                go_upto_region 21 with fail
                refine' wp_region_calmD (by kernel_rfl) (fun D u9 w' => Past [gs, gk] wZ w' ∧ Blk w' (gs) 4 cs ∧ (D 12 = false → Blk w' (gk) 44 cb) ∧ (D 12 = true → Blk w' (gk) 44 (setArr cb (src * 6) [.int .i64 na, .int .i64 nlo, .int .i64 nhi, .int .i64 np, .int .i64 nle, .int .i64 nre])) ∧ Blk w' (gB) 51 #[.int .i64 sta, .int .i64 loc, .int .i64 p, .int .i64 li, .int .i64 0, .slice (some ⟨be9, oe9, none⟩) ns ecap, .slice (some ⟨bk9, off9, none⟩) nx scap] ∧ Blk w' (wr.heap.size) 56 #[.int .i64 src, .int .i64 tr, .int .i64 lo, .int .i64 ou, .int .i64 ol, .int .i64 ho, .int .i64 hl, .int .i64 ba, .int .i64 bl9, .int .i64 x2, .int .i64 x3] ∧ Blk w' (gY) 37 #[.int .i64 U1, .int .i64 V2, .int .i64 V3, .int .i64 U4, .int .i64 e0] ∧ Blk w' (v3.heap.size) 40 #[.int .i64 a0, .int .i64 a1] ∧ wZ.heap.size ≤ w'.heap.size) (fun _ _ => True) [(Is _), (Is _), (Is _), (Is _), (Is _), (Is _), (Is _), (Is _), (Is _), (Is _), (Is _), (Is _), (fun _ _ _ => True)] [[], [], [1], [], [], [], [5], [3, 4, 6], [7], [8], [8], [0, 2], [11, 9]] rfl (calmB_of (by kernel_rfl)) (fun u => by (simp only [calmPut, Act.put, List.setIfInBounds_toArray, List.set_cons_zero, List.set_cons_succ, Nat.zero_add, Nat.reduceAdd]; rfl)) ?_ (calmKeep_cons keep_is' (calmKeep_cons keep_is' (calmKeep_cons keep_is' (calmKeep_cons keep_is' (calmKeep_cons keep_is' (calmKeep_cons keep_is' (calmKeep_cons keep_is' (calmKeep_cons keep_is' (calmKeep_cons keep_is' (calmKeep_cons keep_is' (calmKeep_cons keep_is' (calmKeep_cons keep_is' (calmKeep_cons keep_triv (calmKeep_nil)))))))))))))) ?_ ?_
                · exact ⟨(by (repeat' (first | (with_reducible exact (Past.refl _ _)) | (with_reducible exact Past.refl _ _) | (with_reducible refine Past.drew ?_) | (with_reducible refine Past.drewN ?_ _) | (with_reducible refine Past.allocs ?_ _) | (with_reducible refine' Past.setIn ?_ ?_ _; rotate_left 1; (focus (simp; done))) | (with_reducible refine' Past.far ?_ ?_ _; rotate_left 1; (first | omega | (simp <;> omega)))))), (by (repeat' (first | (with_reducible exact bS) | (with_reducible refine' Blk.alloc ?_ _) | (with_reducible refine' Blk.drew ?_) | (with_reducible refine' Blk.drewN ?_ _) | (with_reducible refine' Blk.put ?_ ?_) | (with_reducible refine' Blk.far ?_ ?_ _) | exact bS | exact rfl)) <;> (first | omega | (simp <;> omega))), (fun _ => (by (repeat' (first | (with_reducible exact bK) | (with_reducible refine' Blk.alloc ?_ _) | (with_reducible refine' Blk.drew ?_) | (with_reducible refine' Blk.drewN ?_ _) | (with_reducible refine' Blk.put ?_ ?_) | (with_reducible refine' Blk.far ?_ ?_ _) | exact bK | exact rfl)) <;> (first | omega | (simp <;> omega)))), (fun h => by cases h), (by (repeat' (first | (with_reducible exact bB) | (with_reducible refine' Blk.alloc ?_ _) | (with_reducible refine' Blk.drew ?_) | (with_reducible refine' Blk.drewN ?_ _) | (with_reducible refine' Blk.put ?_ ?_) | (with_reducible refine' Blk.far ?_ ?_ _) | exact bB | exact rfl)) <;> (first | omega | (simp <;> omega))), (by (repeat' (first | (with_reducible exact bX) | (with_reducible refine' Blk.alloc ?_ _) | (with_reducible refine' Blk.drew ?_) | (with_reducible refine' Blk.drewN ?_ _) | (with_reducible refine' Blk.put ?_ ?_) | (with_reducible refine' Blk.far ?_ ?_ _) | exact bX | exact rfl)) <;> (first | omega | (simp <;> omega))), (by (repeat' (first | (with_reducible exact bY) | (with_reducible refine' Blk.alloc ?_ _) | (with_reducible refine' Blk.drew ?_) | (with_reducible refine' Blk.drewN ?_ _) | (with_reducible refine' Blk.put ?_ ?_) | (with_reducible refine' Blk.far ?_ ?_ _) | exact bY | exact rfl)) <;> (first | omega | (simp <;> omega))), (by (repeat' (first | (with_reducible exact bN) | (with_reducible refine' Blk.alloc ?_ _) | (with_reducible refine' Blk.drew ?_) | (with_reducible refine' Blk.drewN ?_ _) | (with_reducible refine' Blk.put ?_ ?_) | (with_reducible refine' Blk.far ?_ ?_ _) | exact bN | exact rfl)) <;> (first | omega | (simp <;> omega))), (by first | exact Nat.le_refl _ | omega | (simp <;> omega))⟩
                rotate_left 12
                · skip
                  refine dSteps_cons (fun uu wq D hd hn hn2 hC hk K hK => ?_) ?_
                  · obtain ⟨hP, mS, mK, yK, mB, mX, mY, mN, hZ⟩ := hC
                    clear hn hn2
                    clear hk
                    go_simp
                    exact hK _ _ _ rfl ⟨hP, mS, mK, yK, mB, mX, mY, mN, hZ⟩ trivial rfl
                  refine dSteps_cons (fun uu wq D hd hn hn2 hC hk K hK => ?_) ?_
                  · obtain ⟨hP, mS, mK, yK, mB, mX, mY, mN, hZ⟩ := hC
                    clear hn hn2
                    clear hk
                    go_simp
                    exact hK _ _ _ rfl ⟨hP, mS, mK, yK, mB, mX, mY, mN, hZ⟩ trivial rfl
                  refine dSteps_cons (fun uu wq D hd hn hn2 hC hk K hK => ?_) ?_
                  · obtain ⟨hP, mS, mK, yK, mB, mX, mY, mN, hZ⟩ := hC
                    replace hn := Lib.hid hn; replace hn2 := Lib.hid hn2
                    simp only [calmKnown, List.getElem?_cons_zero, List.getElem?_cons_succ, and_true, Is, Pure, Option.some.injEq, List.getD_cons_zero, List.getD_cons_succ, List.map_cons, List.map_nil] at hk
                    have h1 := hk; clear hk
                    simp only [h1] at hK ⊢
                    have H1 := Lib.hid h1; clear h1
                    have cS := mS.cell; have lS := mS.lt
                    have cB := mB.cell; have lB := mB.lt
                    have cX := mX.cell; have lX := mX.lt
                    have cY := mY.cell; have lY := mY.lt
                    have cN := mN.cell; have lN := mN.lt
                    have hB := mK (hn.out 12 (by kernel_rfl)); have cK := hB.cell; have lK := hB.lt
                    go_simp
                    exact hK _ _ _ rfl ⟨hP, mS, mK, yK, mB, mX, mY, mN, hZ⟩ trivial rfl
                  refine dSteps_cons (fun uu wq D hd hn hn2 hC hk K hK => ?_) ?_
                  · obtain ⟨hP, mS, mK, yK, mB, mX, mY, mN, hZ⟩ := hC
                    clear hn hn2
                    clear hk
                    go_simp
                    exact hK _ _ _ rfl ⟨hP, mS, mK, yK, mB, mX, mY, mN, hZ⟩ trivial rfl
                  refine dSteps_cons (fun uu wq D hd hn hn2 hC hk K hK => ?_) ?_
                  · obtain ⟨hP, mS, mK, yK, mB, mX, mY, mN, hZ⟩ := hC
                    replace hn := Lib.hid hn; replace hn2 := Lib.hid hn2
                    clear hk
                    have cS := mS.cell; have lS := mS.lt
                    have cB := mB.cell; have lB := mB.lt
                    have cX := mX.cell; have lX := mX.lt
                    have cY := mY.cell; have lY := mY.lt
                    have cN := mN.cell; have lN := mN.lt
                    have hB := mK (hn.out 12 (by kernel_rfl)); have cK := hB.cell; have lK := hB.lt
                    go_simp
                    exact hK _ _ _ rfl ⟨hP, mS, mK, yK, mB, mX, mY, mN, hZ⟩ trivial rfl
                  refine dSteps_cons (fun uu wq D hd hn hn2 hC hk K hK => ?_) ?_
                  · obtain ⟨hP, mS, mK, yK, mB, mX, mY, mN, hZ⟩ := hC
                    clear hn hn2
                    clear hk
                    go_simp
                    exact hK _ _ _ rfl ⟨hP, mS, mK, yK, mB, mX, mY, mN, hZ⟩ trivial rfl
                  refine dSteps_cons (fun uu wq D hd hn hn2 hC hk K hK => ?_) ?_
                  · obtain ⟨hP, mS, mK, yK, mB, mX, mY, mN, hZ⟩ := hC
                    replace hn := Lib.hid hn; replace hn2 := Lib.hid hn2
                    simp only [calmKnown, List.getElem?_cons_zero, List.getElem?_cons_succ, and_true, Is, Pure, Option.some.injEq, List.getD_cons_zero, List.getD_cons_succ, List.map_cons, List.map_nil] at hk
                    have h5 := hk; clear hk
                    simp only [h5] at hK ⊢
                    have H5 := Lib.hid h5; clear h5
                    have cS := mS.cell; have lS := mS.lt
                    have cB := mB.cell; have lB := mB.lt
                    have cX := mX.cell; have lX := mX.lt
                    have cY := mY.cell; have lY := mY.lt
                    have cN := mN.cell; have lN := mN.lt
                    have hB := mK (hn.out 12 (by kernel_rfl)); have cK := hB.cell; have lK := hB.lt
                    go_simp
                    exact hK _ _ _ rfl ⟨hP, mS, mK, yK, mB, mX, mY, mN, hZ⟩ trivial rfl
                  refine dSteps_cons (fun uu wq D hd hn hn2 hC hk K hK => ?_) ?_
                  · obtain ⟨hP, mS, mK, yK, mB, mX, mY, mN, hZ⟩ := hC
                    clear hn hn2
                    simp only [calmKnown, List.getElem?_cons_zero, List.getElem?_cons_succ, and_true, Is, Pure, Option.some.injEq, List.getD_cons_zero, List.getD_cons_succ, List.map_cons, List.map_nil] at hk
                    obtain ⟨h3, h4, h6⟩ := hk
                    simp only [h3, h4, h6] at hK ⊢
                    have H3 := Lib.hid h3; clear h3; have H4 := Lib.hid h4; clear h4; have H6 := Lib.hid h6; clear h6
                    first
                      | (refine' calm_op ?_ ?_; rfl; go_simp; (first | (with_reducible refine (RB1.out _).mono ?_)); rintro e w2 ⟨rfl, hbl⟩; exact hK _ _ _ rfl ⟨hP.call hbl, Blk.keep hbl mS, (fun h => Blk.keep hbl (mK h)), (fun h => Blk.keep hbl (yK h)), Blk.keep hbl mB, Blk.keep hbl mX, Blk.keep hbl mY, Blk.keep hbl mN, Nat.le_trans hZ hbl.size⟩ trivial rfl)
                      | (go_simp; exact hK _ _ _ rfl ⟨hP, mS, mK, yK, mB, mX, mY, mN, hZ⟩ trivial rfl)
                  refine dSteps_cons (fun uu wq D hd hn hn2 hC hk K hK => ?_) ?_
                  · obtain ⟨hP, mS, mK, yK, mB, mX, mY, mN, hZ⟩ := hC
                    clear hn hn2
                    simp only [calmKnown, List.getElem?_cons_zero, List.getElem?_cons_succ, and_true, Is, Pure, Option.some.injEq, List.getD_cons_zero, List.getD_cons_succ, List.map_cons, List.map_nil] at hk
                    have h7 := hk; clear hk
                    simp only [h7] at hK ⊢
                    have H7 := Lib.hid h7; clear h7
                    go_simp
                    exact hK _ _ _ rfl ⟨hP, mS, mK, yK, mB, mX, mY, mN, hZ⟩ trivial rfl
                  refine dSteps_cons (fun uu wq D hd hn hn2 hC hk K hK => ?_) ?_
                  · obtain ⟨hP, mS, mK, yK, mB, mX, mY, mN, hZ⟩ := hC
                    clear hn hn2
                    simp only [calmKnown, List.getElem?_cons_zero, List.getElem?_cons_succ, and_true, Is, Pure, Option.some.injEq, List.getD_cons_zero, List.getD_cons_succ, List.map_cons, List.map_nil] at hk
                    have h8 := hk; clear hk
                    simp only [h8] at hK ⊢
                    have H8 := Lib.hid h8; clear h8
                    go_simp
                    exact hK _ _ _ rfl ⟨hP, mS, mK, yK, mB, mX, mY, mN, hZ⟩ trivial rfl
                  refine dSteps_cons (fun uu wq D hd hn hn2 hC hk K hK => ?_) ?_
                  · obtain ⟨hP, mS, mK, yK, mB, mX, mY, mN, hZ⟩ := hC
                    clear hn hn2
                    simp only [calmKnown, List.getElem?_cons_zero, List.getElem?_cons_succ, and_true, Is, Pure, Option.some.injEq, List.getD_cons_zero, List.getD_cons_succ, List.map_cons, List.map_nil] at hk
                    have h8 := hk; clear hk
                    simp only [h8] at hK ⊢
                    have H8 := Lib.hid h8; clear h8
                    go_simp
                    exact hK _ _ _ rfl ⟨hP, mS, mK, yK, mB, mX, mY, mN, hZ⟩ trivial rfl
                  refine dSteps_cons (fun uu wq D hd hn hn2 hC hk K hK => ?_) ?_
                  · obtain ⟨hP, mS, mK, yK, mB, mX, mY, mN, hZ⟩ := hC
                    clear hn hn2
                    simp only [calmKnown, List.getElem?_cons_zero, List.getElem?_cons_succ, and_true, Is, Pure, Option.some.injEq, List.getD_cons_zero, List.getD_cons_succ, List.map_cons, List.map_nil] at hk
                    obtain ⟨h0, h2⟩ := hk
                    simp only [h0, h2] at hK ⊢
                    have H0 := Lib.hid h0; clear h0; have H2 := Lib.hid h2; clear h2
                    go_simp
                    exact hK _ _ _ rfl ⟨hP, mS, mK, yK, mB, mX, mY, mN, hZ⟩ trivial rfl
                  refine dSteps_cons (fun uu wq D hd hn hn2 hC hk K hK => ?_) ?_
                  · obtain ⟨hP, mS, mK, yK, mB, mX, mY, mN, hZ⟩ := hC
                    clear hn hn2
                    simp only [calmKnown, List.getElem?_cons_zero, List.getElem?_cons_succ, and_true, Is, Pure, Option.some.injEq, List.getD_cons_zero, List.getD_cons_succ, List.map_cons, List.map_nil] at hk
                    obtain ⟨h11, h9⟩ := hk
                    simp only [h11, h9] at hK ⊢
                    have H11 := Lib.hid h11; clear h11; have H9 := Lib.hid h9; clear h9
                    have hB := mK hd
                    have hc9 := hB.cell; have hf9 := hB.frozen; have hl9 := hB.lt
                    have hB2 := setAll_blk [.int .i64 na, .int .i64 nlo, .int .i64 nhi, .int .i64 np, .int .i64 nle, .int .i64 nre] (src * 6) wq _ hB
                    go_simp
                    exact hK _ undef (setAll wq (gk) (src * 6) [.int .i64 na, .int .i64 nlo, .int .i64 nhi, .int .i64 np, .int .i64 nle, .int .i64 nre]) rfl ⟨(setAll_pastX (by simp) [.int .i64 na, .int .i64 nlo, .int .i64 nhi, .int .i64 np, .int .i64 nle, .int .i64 nre] (src * 6) wq hP), setAll_far (show gs ≠ gk by first | omega | (simp <;> omega)) [.int .i64 na, .int .i64 nlo, .int .i64 nhi, .int .i64 np, .int .i64 nle, .int .i64 nre] (src * 6) wq mS, (fun h => by cases h), (fun _ => hB2), setAll_far (show gB ≠ gk by first | omega | (simp <;> omega)) [.int .i64 na, .int .i64 nlo, .int .i64 nhi, .int .i64 np, .int .i64 nle, .int .i64 nre] (src * 6) wq mB, setAll_far (show wr.heap.size ≠ gk by first | omega | (simp <;> omega)) [.int .i64 na, .int .i64 nlo, .int .i64 nhi, .int .i64 np, .int .i64 nle, .int .i64 nre] (src * 6) wq mX, setAll_far (show gY ≠ gk by first | omega | (simp <;> omega)) [.int .i64 na, .int .i64 nlo, .int .i64 nhi, .int .i64 np, .int .i64 nle, .int .i64 nre] (src * 6) wq mY, setAll_far (show v3.heap.size ≠ gk by first | omega | (simp <;> omega)) [.int .i64 na, .int .i64 nlo, .int .i64 nhi, .int .i64 np, .int .i64 nle, .int .i64 nre] (src * 6) wq mN, (by rw [setAll_size]; exact hZ)⟩ trivial trivial
                  exact dSteps_nil
                · intro uu v4 D hD hC hF
                  obtain ⟨hP, mS, mK, yK, mB, mX, mY, mN, hZ⟩ := hC
                  simp only [calmFacts, Is, and_true, true_and] at hF
                  obtain ⟨f0, f1, f2, f3, f4, f5, f6, f7, f8, f9, f10, f11⟩ := hF
                  simp only [f0, f1, f2, f3, f4, f5, f6, f7, f8, f9, f10, f11]
                  have bbK := yK (hD 12 (by decide))
                  have hq := hP; clear hP
                  have Kv4 : Past [gs, gk] wr v4 := Past.trans hqXwZ hq
                  have Zv4 := hZ; clear hZ
                  clear hq hqXwZ
                  clear bS cS fS lS eS kS; have bS := mS
                  clear bK cK fK lK eK kK; have bK := bbK
                  clear bB cB fB lB eB kB; have bB := mB
                  clear bX cX fX lX eX kX; have bX := mX
                  clear bY cY fY lY eY kY; have bY := mY
                  clear bN cN fN lN eN kN; have bN := mN
                  clear mS mK mB mX mY mN yK bbK hD
                  obtain ⟨cS, fS, lS, eS, kS⟩ := Blk.facts bS
                  obtain ⟨cK, fK, lK, eK, kK⟩ := Blk.facts bK
                  obtain ⟨cB, fB, lB, eB, kB⟩ := Blk.facts bB
                  obtain ⟨cX, fX, lX, eX, kX⟩ := Blk.facts bX
                  obtain ⟨cY, fY, lY, eY, kY⟩ := Blk.facts bY
                  obtain ⟨cN, fN, lN, eN, kN⟩ := Blk.facts bN
                  have bS2 := bS.set_ src (.bool true)
                  go_wp2
                  go_roundg (nx - (q + 1))
                  case measure => omega
                  case rel => exact ⟨q + 1, m', ls ++ [lnW wSample [(src : Int), U1, V2, V3, U4, e0]], _, _, by omega, by omega, by go_num, HTS2.out, by rw [lns_one, HTX.out, HL9.out]; (first | rfl | (simp [ByteArray.mk_append_mk]; done)), by rw [HT'.out], by rw [HU'.out], bS2, (by (repeat' (first | (with_reducible exact bK) | (with_reducible refine' Blk.alloc ?_ _) | (with_reducible refine' Blk.drew ?_) | (with_reducible refine' Blk.drewN ?_ _) | (with_reducible refine' Blk.put ?_ ?_) | (with_reducible refine' Blk.far ?_ ?_ _) | exact bK | exact rfl)) <;> (first | omega | (simp <;> omega))), HPUT2.out, (by (repeat' (first | (with_reducible exact bB) | (with_reducible refine' Blk.alloc ?_ _) | (with_reducible refine' Blk.drew ?_) | (with_reducible refine' Blk.drewN ?_ _) | (with_reducible refine' Blk.put ?_ ?_) | (with_reducible refine' Blk.far ?_ ?_ _) | exact bB | exact rfl)) <;> (first | omega | (simp <;> omega))), by (have := Kv4.1; first | omega | (simp; omega) | (simp at this ⊢; omega)), Past.belowX HKR.out (Past.setIn Kv4 (by simp) _) HWQ.out⟩
              | true =>
                have rl := ilearn_any ka klo khi kp kle kre U4 a0 a1
                have hne := HLE2.out rfl
                have hk9 : takeK (true, ⟨ka, klo, khi, kp, kle, kre⟩) U4 a0 a1 p = (true, kOf (lrn ka klo khi kp kle kre U4 a0 a1)) := by
                  show (if (lrnK ⟨ka, klo, khi, kp, kle, kre⟩ U4 a0 a1).e = 0 then _ else _) = _
                  rw [if_pos hne]; rfl
                have hb3 := HB3.out
                rw [hk9] at hb3
                obtain ⟨nk, hnk⟩ : ∃ nk, lrn ka klo khi kp kle kre U4 a0 a1 = nk := ⟨_, rfl⟩
                rw [hnk] at rl hb3
                have hput2 := HPUT.out (kOf nk)
                rw [HSAME.out rfl, ← hb3] at hput2
                obtain ⟨na, nlo, nhi, np, nle, nre, nok, ne⟩ := nk
                simp only [Lrn.V, V6, kOf, K6.cs] at rl hput2
                have RL := Lib.hid rl; have HPUT2 := Lib.hid hput2
                clear hk9 hnk rl hne hput2 hb3
                go_upto_region 23 with fail
                refine' wp_region_calmD (by kernel_rfl) (fun D u9 w' => Past [gs, gk] wZ w' ∧ Blk w' (gs) 4 cs ∧ (D 16 = false → Blk w' (gk) 44 cb) ∧ (D 16 = true → Blk w' (gk) 44 (setArr cb (src * 6) [.int .i64 na, .int .i64 nlo, .int .i64 nhi, .int .i64 np, .int .i64 nle, .int .i64 nre])) ∧ Blk w' (gB) 51 #[.int .i64 sta, .int .i64 loc, .int .i64 p, .int .i64 li, .int .i64 0, .slice (some ⟨be9, oe9, none⟩) ns ecap, .slice (some ⟨bk9, off9, none⟩) nx scap] ∧ Blk w' (wr.heap.size) 56 #[.int .i64 src, .int .i64 tr, .int .i64 lo, .int .i64 ou, .int .i64 ol, .int .i64 ho, .int .i64 hl, .int .i64 ba, .int .i64 bl9, .int .i64 x2, .int .i64 x3] ∧ Blk w' (gY) 37 #[.int .i64 U1, .int .i64 V2, .int .i64 V3, .int .i64 U4, .int .i64 e0] ∧ Blk w' (v3.heap.size) 40 #[.int .i64 a0, .int .i64 a1] ∧ wZ.heap.size ≤ w'.heap.size) (fun _ _ => True) [(Is _), (Is _), (Is _), (Is _), (Is _), (Is _), (Is _), (Is _), (Is _), (Is _), (Is _), (Is _), (Is _), (Is _), (Is _), (Is _), (fun _ _ _ => True)] [[], [], [1], [], [], [4], [3, 5], [6], [], [], [7, 8, 9], [10], [11], [11], [11], [0, 2], [15, 12]] rfl (calmB_of (by kernel_rfl)) (fun u => by (simp only [calmPut, Act.put, List.setIfInBounds_toArray, List.set_cons_zero, List.set_cons_succ, Nat.zero_add, Nat.reduceAdd]; rfl)) ?_ (calmKeep_cons keep_is' (calmKeep_cons keep_is' (calmKeep_cons keep_is' (calmKeep_cons keep_is' (calmKeep_cons keep_is' (calmKeep_cons keep_is' (calmKeep_cons keep_is' (calmKeep_cons keep_is' (calmKeep_cons keep_is' (calmKeep_cons keep_is' (calmKeep_cons keep_is' (calmKeep_cons keep_is' (calmKeep_cons keep_is' (calmKeep_cons keep_is' (calmKeep_cons keep_is' (calmKeep_cons keep_is' (calmKeep_cons keep_triv (calmKeep_nil)))))))))))))))))) ?_ ?_
                · exact ⟨(by (repeat' (first | (with_reducible exact (Past.refl _ _)) | (with_reducible exact Past.refl _ _) | (with_reducible refine Past.drew ?_) | (with_reducible refine Past.drewN ?_ _) | (with_reducible refine Past.allocs ?_ _) | (with_reducible refine' Past.setIn ?_ ?_ _; rotate_left 1; (focus (simp; done))) | (with_reducible refine' Past.far ?_ ?_ _; rotate_left 1; (first | omega | (simp <;> omega)))))), (by (repeat' (first | (with_reducible exact bS) | (with_reducible refine' Blk.alloc ?_ _) | (with_reducible refine' Blk.drew ?_) | (with_reducible refine' Blk.drewN ?_ _) | (with_reducible refine' Blk.put ?_ ?_) | (with_reducible refine' Blk.far ?_ ?_ _) | exact bS | exact rfl)) <;> (first | omega | (simp <;> omega))), (fun _ => (by (repeat' (first | (with_reducible exact bK) | (with_reducible refine' Blk.alloc ?_ _) | (with_reducible refine' Blk.drew ?_) | (with_reducible refine' Blk.drewN ?_ _) | (with_reducible refine' Blk.put ?_ ?_) | (with_reducible refine' Blk.far ?_ ?_ _) | exact bK | exact rfl)) <;> (first | omega | (simp <;> omega)))), (fun h => by cases h), (by (repeat' (first | (with_reducible exact bB) | (with_reducible refine' Blk.alloc ?_ _) | (with_reducible refine' Blk.drew ?_) | (with_reducible refine' Blk.drewN ?_ _) | (with_reducible refine' Blk.put ?_ ?_) | (with_reducible refine' Blk.far ?_ ?_ _) | exact bB | exact rfl)) <;> (first | omega | (simp <;> omega))), (by (repeat' (first | (with_reducible exact bX) | (with_reducible refine' Blk.alloc ?_ _) | (with_reducible refine' Blk.drew ?_) | (with_reducible refine' Blk.drewN ?_ _) | (with_reducible refine' Blk.put ?_ ?_) | (with_reducible refine' Blk.far ?_ ?_ _) | exact bX | exact rfl)) <;> (first | omega | (simp <;> omega))), (by (repeat' (first | (with_reducible exact bY) | (with_reducible refine' Blk.alloc ?_ _) | (with_reducible refine' Blk.drew ?_) | (with_reducible refine' Blk.drewN ?_ _) | (with_reducible refine' Blk.put ?_ ?_) | (with_reducible refine' Blk.far ?_ ?_ _) | exact bY | exact rfl)) <;> (first | omega | (simp <;> omega))), (by (repeat' (first | (with_reducible exact bN) | (with_reducible refine' Blk.alloc ?_ _) | (with_reducible refine' Blk.drew ?_) | (with_reducible refine' Blk.drewN ?_ _) | (with_reducible refine' Blk.put ?_ ?_) | (with_reducible refine' Blk.far ?_ ?_ _) | exact bN | exact rfl)) <;> (first | omega | (simp <;> omega))), (by first | exact Nat.le_refl _ | omega | (simp <;> omega))⟩
                rotate_left 16
                · skip
                  refine dSteps_cons (fun uu wq D hd hn hn2 hC hk K hK => ?_) ?_
                  · obtain ⟨hP, mS, mK, yK, mB, mX, mY, mN, hZ⟩ := hC
                    clear hn hn2
                    clear hk
                    go_simp
                    exact hK _ _ _ rfl ⟨hP, mS, mK, yK, mB, mX, mY, mN, hZ⟩ trivial rfl
                  refine dSteps_cons (fun uu wq D hd hn hn2 hC hk K hK => ?_) ?_
                  · obtain ⟨hP, mS, mK, yK, mB, mX, mY, mN, hZ⟩ := hC
                    clear hn hn2
                    clear hk
                    go_simp
                    exact hK _ _ _ rfl ⟨hP, mS, mK, yK, mB, mX, mY, mN, hZ⟩ trivial rfl
                  refine dSteps_cons (fun uu wq D hd hn hn2 hC hk K hK => ?_) ?_
                  · obtain ⟨hP, mS, mK, yK, mB, mX, mY, mN, hZ⟩ := hC
                    replace hn := Lib.hid hn; replace hn2 := Lib.hid hn2
                    simp only [calmKnown, List.getElem?_cons_zero, List.getElem?_cons_succ, and_true, Is, Pure, Option.some.injEq, List.getD_cons_zero, List.getD_cons_succ, List.map_cons, List.map_nil] at hk
                    have h1 := hk; clear hk
                    simp only [h1] at hK ⊢
                    have H1 := Lib.hid h1; clear h1
                    have cS := mS.cell; have lS := mS.lt
                    have cB := mB.cell; have lB := mB.lt
                    have cX := mX.cell; have lX := mX.lt
                    have cY := mY.cell; have lY := mY.lt
                    have cN := mN.cell; have lN := mN.lt
                    have hB := mK (hn.out 16 (by kernel_rfl)); have cK := hB.cell; have lK := hB.lt
                    go_simp
                    exact hK _ _ _ rfl ⟨hP, mS, mK, yK, mB, mX, mY, mN, hZ⟩ trivial rfl
                  refine dSteps_cons (fun uu wq D hd hn hn2 hC hk K hK => ?_) ?_
                  · obtain ⟨hP, mS, mK, yK, mB, mX, mY, mN, hZ⟩ := hC
                    clear hn hn2
                    clear hk
                    go_simp
                    exact hK _ _ _ rfl ⟨hP, mS, mK, yK, mB, mX, mY, mN, hZ⟩ trivial rfl
                  refine dSteps_cons (fun uu wq D hd hn hn2 hC hk K hK => ?_) ?_
                  · obtain ⟨hP, mS, mK, yK, mB, mX, mY, mN, hZ⟩ := hC
                    clear hn hn2
                    clear hk
                    go_simp
                    exact hK _ _ _ rfl ⟨hP, mS, mK, yK, mB, mX, mY, mN, hZ⟩ trivial rfl
                  refine dSteps_cons (fun uu wq D hd hn hn2 hC hk K hK => ?_) ?_
                  · obtain ⟨hP, mS, mK, yK, mB, mX, mY, mN, hZ⟩ := hC
                    replace hn := Lib.hid hn; replace hn2 := Lib.hid hn2
                    simp only [calmKnown, List.getElem?_cons_zero, List.getElem?_cons_succ, and_true, Is, Pure, Option.some.injEq, List.getD_cons_zero, List.getD_cons_succ, List.map_cons, List.map_nil] at hk
                    have h4 := hk; clear hk
                    simp only [h4] at hK ⊢
                    have H4 := Lib.hid h4; clear h4
                    have cS := mS.cell; have lS := mS.lt
                    have cB := mB.cell; have lB := mB.lt
                    have cX := mX.cell; have lX := mX.lt
                    have cY := mY.cell; have lY := mY.lt
                    have cN := mN.cell; have lN := mN.lt
                    have hB := mK (hn.out 16 (by kernel_rfl)); have cK := hB.cell; have lK := hB.lt
                    go_simp
                    exact hK _ _ _ rfl ⟨hP, mS, mK, yK, mB, mX, mY, mN, hZ⟩ trivial rfl
                  refine dSteps_cons (fun uu wq D hd hn hn2 hC hk K hK => ?_) ?_
                  · obtain ⟨hP, mS, mK, yK, mB, mX, mY, mN, hZ⟩ := hC
                    clear hn hn2
                    simp only [calmKnown, List.getElem?_cons_zero, List.getElem?_cons_succ, and_true, Is, Pure, Option.some.injEq, List.getD_cons_zero, List.getD_cons_succ, List.map_cons, List.map_nil] at hk
                    obtain ⟨h3, h5⟩ := hk
                    simp only [h3, h5] at hK ⊢
                    have H3 := Lib.hid h3; clear h3; have H5 := Lib.hid h5; clear h5
                    go_simp
                    exact hK _ _ _ rfl ⟨hP, mS, mK, yK, mB, mX, mY, mN, hZ⟩ trivial rfl
                  refine dSteps_cons (fun uu wq D hd hn hn2 hC hk K hK => ?_) ?_
                  · obtain ⟨hP, mS, mK, yK, mB, mX, mY, mN, hZ⟩ := hC
                    replace hn := Lib.hid hn; replace hn2 := Lib.hid hn2
                    simp only [calmKnown, List.getElem?_cons_zero, List.getElem?_cons_succ, and_true, Is, Pure, Option.some.injEq, List.getD_cons_zero, List.getD_cons_succ, List.map_cons, List.map_nil] at hk
                    have h6 := hk; clear hk
                    simp only [h6] at hK ⊢
                    have H6 := Lib.hid h6; clear h6
                    have cS := mS.cell; have lS := mS.lt
                    have cB := mB.cell; have lB := mB.lt
                    have cX := mX.cell; have lX := mX.lt
                    have cY := mY.cell; have lY := mY.lt
                    have cN := mN.cell; have lN := mN.lt
                    have hB := mK (hn.out 16 (by kernel_rfl)); have cK := hB.cell; have lK := hB.lt
                    go_simp
                    exact hK _ _ _ rfl ⟨hP, mS, mK, yK, mB, mX, mY, mN, hZ⟩ trivial rfl
                  refine dSteps_cons (fun uu wq D hd hn hn2 hC hk K hK => ?_) ?_
                  · obtain ⟨hP, mS, mK, yK, mB, mX, mY, mN, hZ⟩ := hC
                    clear hn hn2
                    clear hk
                    go_simp
                    exact hK _ _ _ rfl ⟨hP, mS, mK, yK, mB, mX, mY, mN, hZ⟩ trivial rfl
                  refine dSteps_cons (fun uu wq D hd hn hn2 hC hk K hK => ?_) ?_
                  · obtain ⟨hP, mS, mK, yK, mB, mX, mY, mN, hZ⟩ := hC
                    replace hn := Lib.hid hn; replace hn2 := Lib.hid hn2
                    clear hk
                    have cS := mS.cell; have lS := mS.lt
                    have cB := mB.cell; have lB := mB.lt
                    have cX := mX.cell; have lX := mX.lt
                    have cY := mY.cell; have lY := mY.lt
                    have cN := mN.cell; have lN := mN.lt
                    have hB := mK (hn.out 16 (by kernel_rfl)); have cK := hB.cell; have lK := hB.lt
                    go_simp
                    exact hK _ _ _ rfl ⟨hP, mS, mK, yK, mB, mX, mY, mN, hZ⟩ trivial rfl
                  refine dSteps_cons (fun uu wq D hd hn hn2 hC hk K hK => ?_) ?_
                  · obtain ⟨hP, mS, mK, yK, mB, mX, mY, mN, hZ⟩ := hC
                    clear hn hn2
                    simp only [calmKnown, List.getElem?_cons_zero, List.getElem?_cons_succ, and_true, Is, Pure, Option.some.injEq, List.getD_cons_zero, List.getD_cons_succ, List.map_cons, List.map_nil] at hk
                    obtain ⟨h7, h8, h9⟩ := hk
                    simp only [h7, h8, h9] at hK ⊢
                    have H7 := Lib.hid h7; clear h7; have H8 := Lib.hid h8; clear h8; have H9 := Lib.hid h9; clear h9
                    first
                      | (refine' calm_op ?_ ?_; rfl; go_simp; (first | (with_reducible refine (RL.out _).mono ?_)); rintro e w2 ⟨rfl, hbl⟩; exact hK _ _ _ rfl ⟨hP.call hbl, Blk.keep hbl mS, (fun h => Blk.keep hbl (mK h)), (fun h => Blk.keep hbl (yK h)), Blk.keep hbl mB, Blk.keep hbl mX, Blk.keep hbl mY, Blk.keep hbl mN, Nat.le_trans hZ hbl.size⟩ trivial rfl)
                      | (go_simp; exact hK _ _ _ rfl ⟨hP, mS, mK, yK, mB, mX, mY, mN, hZ⟩ trivial rfl)
                  refine dSteps_cons (fun uu wq D hd hn hn2 hC hk K hK => ?_) ?_
                  · obtain ⟨hP, mS, mK, yK, mB, mX, mY, mN, hZ⟩ := hC
                    clear hn hn2
                    simp only [calmKnown, List.getElem?_cons_zero, List.getElem?_cons_succ, and_true, Is, Pure, Option.some.injEq, List.getD_cons_zero, List.getD_cons_succ, List.map_cons, List.map_nil] at hk
                    have h10 := hk; clear hk
                    simp only [h10] at hK ⊢
                    have H10 := Lib.hid h10; clear h10
                    go_simp
                    exact hK _ _ _ rfl ⟨hP, mS, mK, yK, mB, mX, mY, mN, hZ⟩ trivial rfl
                  refine dSteps_cons (fun uu wq D hd hn hn2 hC hk K hK => ?_) ?_
                  · obtain ⟨hP, mS, mK, yK, mB, mX, mY, mN, hZ⟩ := hC
                    clear hn hn2
                    simp only [calmKnown, List.getElem?_cons_zero, List.getElem?_cons_succ, and_true, Is, Pure, Option.some.injEq, List.getD_cons_zero, List.getD_cons_succ, List.map_cons, List.map_nil] at hk
                    have h11 := hk; clear hk
                    simp only [h11] at hK ⊢
                    have H11 := Lib.hid h11; clear h11
                    go_simp
                    exact hK _ _ _ rfl ⟨hP, mS, mK, yK, mB, mX, mY, mN, hZ⟩ trivial rfl
                  refine dSteps_cons (fun uu wq D hd hn hn2 hC hk K hK => ?_) ?_
                  · obtain ⟨hP, mS, mK, yK, mB, mX, mY, mN, hZ⟩ := hC
                    clear hn hn2
                    simp only [calmKnown, List.getElem?_cons_zero, List.getElem?_cons_succ, and_true, Is, Pure, Option.some.injEq, List.getD_cons_zero, List.getD_cons_succ, List.map_cons, List.map_nil] at hk
                    have h11 := hk; clear hk
                    simp only [h11] at hK ⊢
                    have H11 := Lib.hid h11; clear h11
                    go_simp
                    exact hK _ _ _ rfl ⟨hP, mS, mK, yK, mB, mX, mY, mN, hZ⟩ trivial rfl
                  refine dSteps_cons (fun uu wq D hd hn hn2 hC hk K hK => ?_) ?_
                  · obtain ⟨hP, mS, mK, yK, mB, mX, mY, mN, hZ⟩ := hC
                    clear hn hn2
                    simp only [calmKnown, List.getElem?_cons_zero, List.getElem?_cons_succ, and_true, Is, Pure, Option.some.injEq, List.getD_cons_zero, List.getD_cons_succ, List.map_cons, List.map_nil] at hk
                    have h11 := hk; clear hk
                    simp only [h11] at hK ⊢
                    have H11 := Lib.hid h11; clear h11
                    go_simp
                    exact hK _ _ _ rfl ⟨hP, mS, mK, yK, mB, mX, mY, mN, hZ⟩ trivial rfl
                  refine dSteps_cons (fun uu wq D hd hn hn2 hC hk K hK => ?_) ?_
                  · obtain ⟨hP, mS, mK, yK, mB, mX, mY, mN, hZ⟩ := hC
                    clear hn hn2
                    simp only [calmKnown, List.getElem?_cons_zero, List.getElem?_cons_succ, and_true, Is, Pure, Option.some.injEq, List.getD_cons_zero, List.getD_cons_succ, List.map_cons, List.map_nil] at hk
                    obtain ⟨h0, h2⟩ := hk
                    simp only [h0, h2] at hK ⊢
                    have H0 := Lib.hid h0; clear h0; have H2 := Lib.hid h2; clear h2
                    go_simp
                    exact hK _ _ _ rfl ⟨hP, mS, mK, yK, mB, mX, mY, mN, hZ⟩ trivial rfl
                  refine dSteps_cons (fun uu wq D hd hn hn2 hC hk K hK => ?_) ?_
                  · obtain ⟨hP, mS, mK, yK, mB, mX, mY, mN, hZ⟩ := hC
                    clear hn hn2
                    simp only [calmKnown, List.getElem?_cons_zero, List.getElem?_cons_succ, and_true, Is, Pure, Option.some.injEq, List.getD_cons_zero, List.getD_cons_succ, List.map_cons, List.map_nil] at hk
                    obtain ⟨h15, h12⟩ := hk
                    simp only [h15, h12] at hK ⊢
                    have H15 := Lib.hid h15; clear h15; have H12 := Lib.hid h12; clear h12
                    have hB := mK hd
                    have hc9 := hB.cell; have hf9 := hB.frozen; have hl9 := hB.lt
                    have hB2 := setAll_blk [.int .i64 na, .int .i64 nlo, .int .i64 nhi, .int .i64 np, .int .i64 nle, .int .i64 nre] (src * 6) wq _ hB
                    go_simp
                    exact hK _ undef (setAll wq (gk) (src * 6) [.int .i64 na, .int .i64 nlo, .int .i64 nhi, .int .i64 np, .int .i64 nle, .int .i64 nre]) rfl ⟨(setAll_pastX (by simp) [.int .i64 na, .int .i64 nlo, .int .i64 nhi, .int .i64 np, .int .i64 nle, .int .i64 nre] (src * 6) wq hP), setAll_far (show gs ≠ gk by first | omega | (simp <;> omega)) [.int .i64 na, .int .i64 nlo, .int .i64 nhi, .int .i64 np, .int .i64 nle, .int .i64 nre] (src * 6) wq mS, (fun h => by cases h), (fun _ => hB2), setAll_far (show gB ≠ gk by first | omega | (simp <;> omega)) [.int .i64 na, .int .i64 nlo, .int .i64 nhi, .int .i64 np, .int .i64 nle, .int .i64 nre] (src * 6) wq mB, setAll_far (show wr.heap.size ≠ gk by first | omega | (simp <;> omega)) [.int .i64 na, .int .i64 nlo, .int .i64 nhi, .int .i64 np, .int .i64 nle, .int .i64 nre] (src * 6) wq mX, setAll_far (show gY ≠ gk by first | omega | (simp <;> omega)) [.int .i64 na, .int .i64 nlo, .int .i64 nhi, .int .i64 np, .int .i64 nle, .int .i64 nre] (src * 6) wq mY, setAll_far (show v3.heap.size ≠ gk by first | omega | (simp <;> omega)) [.int .i64 na, .int .i64 nlo, .int .i64 nhi, .int .i64 np, .int .i64 nle, .int .i64 nre] (src * 6) wq mN, (by rw [setAll_size]; exact hZ)⟩ trivial trivial
                  exact dSteps_nil
                · intro uu v4 D hD hC hF
                  obtain ⟨hP, mS, mK, yK, mB, mX, mY, mN, hZ⟩ := hC
                  simp only [calmFacts, Is, and_true, true_and] at hF
                  obtain ⟨f0, f1, f2, f3, f4, f5, f6, f7, f8, f9, f10, f11, f12, f13, f14, f15⟩ := hF
                  simp only [f0, f1, f2, f3, f4, f5, f6, f7, f8, f9, f10, f11, f12, f13, f14, f15]
                  have bbK := yK (hD 16 (by decide))
                  have hq := hP; clear hP
                  have Kv4 : Past [gs, gk] wr v4 := Past.trans hqXwZ hq
                  have Zv4 := hZ; clear hZ
                  clear hq hqXwZ
                  clear bS cS fS lS eS kS; have bS := mS
                  clear bK cK fK lK eK kK; have bK := bbK
                  clear bB cB fB lB eB kB; have bB := mB
                  clear bX cX fX lX eX kX; have bX := mX
                  clear bY cY fY lY eY kY; have bY := mY
                  clear bN cN fN lN eN kN; have bN := mN
                  clear mS mK mB mX mY mN yK bbK hD
                  obtain ⟨cS, fS, lS, eS, kS⟩ := Blk.facts bS
                  obtain ⟨cK, fK, lK, eK, kK⟩ := Blk.facts bK
                  obtain ⟨cB, fB, lB, eB, kB⟩ := Blk.facts bB
                  obtain ⟨cX, fX, lX, eX, kX⟩ := Blk.facts bX
                  obtain ⟨cY, fY, lY, eY, kY⟩ := Blk.facts bY
                  obtain ⟨cN, fN, lN, eN, kN⟩ := Blk.facts bN
                  go_wp2
                  go_roundg (nx - (q + 1))
                  case measure => omega
                  case rel => exact ⟨q + 1, m', ls ++ [lnW wSample [(src : Int), U1, V2, V3, U4, e0]], _, _, by omega, by omega, by go_num, HTS2.out, by rw [lns_one, HTX.out, HL9.out]; (first | rfl | (simp [ByteArray.mk_append_mk]; done)), by rw [HT'.out], by rw [HU'.out], (by (repeat' (first | (with_reducible exact bS) | (with_reducible refine' Blk.alloc ?_ _) | (with_reducible refine' Blk.drew ?_) | (with_reducible refine' Blk.drewN ?_ _) | (with_reducible refine' Blk.put ?_ ?_) | (with_reducible refine' Blk.far ?_ ?_ _) | exact bS | exact rfl)) <;> (first | omega | (simp <;> omega))), (by (repeat' (first | (with_reducible exact bK) | (with_reducible refine' Blk.alloc ?_ _) | (with_reducible refine' Blk.drew ?_) | (with_reducible refine' Blk.drewN ?_ _) | (with_reducible refine' Blk.put ?_ ?_) | (with_reducible refine' Blk.far ?_ ?_ _) | exact bK | exact rfl)) <;> (first | omega | (simp <;> omega))), HPUT2.out, (by (repeat' (first | (with_reducible exact bB) | (with_reducible refine' Blk.alloc ?_ _) | (with_reducible refine' Blk.drew ?_) | (with_reducible refine' Blk.drewN ?_ _) | (with_reducible refine' Blk.put ?_ ?_) | (with_reducible refine' Blk.far ?_ ?_ _) | exact bB | exact rfl)) <;> (first | omega | (simp <;> omega))), by (have := Kv4.1; first | omega | (simp; omega) | (simp at this ⊢; omega)), Past.belowX HKR.out (by (repeat' (first | (with_reducible exact Kv4) | (with_reducible exact Past.refl _ _) | (with_reducible refine Past.drew ?_) | (with_reducible refine Past.drewN ?_ _) | (with_reducible refine Past.allocs ?_ _) | (with_reducible refine' Past.setIn ?_ ?_ _; rotate_left 1; (focus (simp; done))) | (with_reducible refine' Past.far ?_ ?_ _; rotate_left 1; (first | omega | (simp <;> omega)))))) HWQ.out⟩
        · obtain rfl : q = nx := by omega
          have gq : decide ((q : Int) < (q : Int)) = false := decide_eq_false (by omega)
          have gqn : decide (q < q) = false := decide_eq_false (by omega)
          obtain ⟨hga, hgb9, hmu, out, nout, hv1, hor⟩ := ts_end HG.out rfl (show q ≤ xs.length by rw [← HNX.out]; exact Nat.le_refl _) (by omega) HTS.out
          have hou := hv1
          rw [HTX.out] at hv1 hga
          obtain ⟨by9, hby9⟩ : ∃ b, m.by_ = b := ⟨_, rfl⟩
          obtain ⟨mu, hmu9⟩ : ∃ z, m.u = z := ⟨_, rfl⟩
          obtain ⟨mt, hmt9⟩ : ∃ z, m.t = z := ⟨_, rfl⟩
          have hks := HKS.out; have hbl := HBL.out
          rw [hby9] at hks hbl hor
          simp only [hmu9, hmt9] at hor hmu hgb9 ⊢
          clear hou HKS HBL hby9 hmu9 hmt9 HTS
          obtain ⟨ln, hln, nln, rn⟩ := top_line wNow #[110, 111, 119] rfl (by decide) [mu] 1 rfl (by decide) (fun m hm => by simp only [List.mem_cons, List.mem_nil_iff, or_false] at hm; subst hm; exact s17J hmu)
          obtain ⟨lr, hlr, nlr, rr⟩ := top_line wRead #[114, 101, 97, 100] rfl (by decide) [0, mu] 2 rfl (by decide) (fun m hm => by simp only [List.mem_cons, List.mem_nil_iff, or_false] at hm; rcases hm with rfl | rfl; exact ⟨by decide, by decide⟩; exact s17J hmu)
          obtain ⟨M1, hM1⟩ : ∃ M, tx ++ ln = M := ⟨_, rfl⟩
          obtain ⟨M2, hM2⟩ : ∃ M, M1 ++ lr = M := ⟨_, rfl⟩
          have nM1 : M1.length ≤ 2200 := by rw [← hM1, List.length_append]; omega
          have nM2 : M2.length ≤ 2400 := by rw [← hM2, List.length_append]; omega
          have e2 : lnsT (ls ++ [lnW wNow [mu], lnW wRead [0, mu]]) = M2 := by rw [lns_two, HTX.out, hln, hlr, hM1, hM2]
          rw [e2] at hor hgb9
          clear e2 hln hlr hmu
          have HM1 := Lib.hid hM1; have HM2 := Lib.hid hM2; have RN9 := Lib.hid rn; have RR9 := Lib.hid rr; clear hM1 hM2 rn rr
          have RUN1 := Lib.hid (fun W h1 h2 => run43_any noSave ⟨tx.toArray⟩ W h1 h2 (by show tx.toArray.size ≤ _; simp; omega) (by simpa using hga))
          rw [show (⟨tx.toArray⟩ : ByteArray).data.toList = tx from rfl, hv1] at RUN1
          unfold scR at RUN1
          dsimp only at RUN1
          have RUN2 := Lib.hid (fun W h1 h2 => run43_any noSave ⟨M2.toArray⟩ W h1 h2 (by show M2.toArray.size ≤ _; simp; omega) (by simpa using hgb9))
          rw [show (⟨M2.toArray⟩ : ByteArray).data.toList = M2 from rfl] at RUN2
          clear hga hgb9 hv1
          have HOR := Lib.hid hor; clear hor
          have hKE : Below w.heap.size w wr := kept_call HKR.out HK8.out
          have HKE := Lib.hid hKE; clear hKE HKR HK8 HWQ HG HS KR HNX
          obtain ⟨wE, rfl⟩ : ∃ x : World, x = wr := ⟨_, rfl⟩
          have lS := bS.lt; have lK := bK.lt; have lB := bB.lt; have cB := bB.cell
          have HBS := Lib.hid bS; have HBK := Lib.hid bK; have HKS := Lib.hid hks; have HBL := Lib.hid hbl; clear bS bK bB hks hbl
          go_wp2
          clear cB
          go_loopg [7, 15] ns (fun G v i wr => TmRel wE by9 ns G v i wr)
          case atStart => exact ⟨0, 0, none, 0, by omega, by omega, rfl, rfl, rfl, RowK.nil, Below.refl _ _⟩
          case round =>
            obtain ⟨q2, mm, LA2, lc2, hq2, rfl, rfl, rfl, hmm, hrow, KR2⟩ := hrel
            have ZR2 := KR2.size
            have hrl := RowK.lt hrow
            have HROW := Lib.hid hrow; have HKR2 := Lib.hid KR2; have HM := Lib.hid hmm; clear hmm hrow
            by_cases hlt2 : q2 < ns
            · have gp : decide ((q2 : Int) < (ns : Int)) = true := decide_eq_true (by omega)
              have gpn : decide (q2 < ns) = true := decide_eq_true hlt2
              have wp9 : IntKind.i64.wrap ((q2 : Int) + 1) = ((q2 + 1 : Nat) : Int) := by rw [IntWalk.i64_in _ (by omega)]; omega
              have bS := Blk.keep KR2 HBS.out; have bK := Blk.keep KR2 HBK.out
              have lS2 := bS.lt; have lK2 := bK.lt
              obtain ⟨hc1, hc2⟩ := HKS.out.2.2 q2 (by rw [HBL.out]; exact hlt2)
              have hst := knowns_next (l := by9) (q := q2) (by rw [HBL.out]; exact hlt2)
              have d9 := (bS.cell q2).trans hc1
              have d0 := (bK.cell (q2 * 6)).trans (hc2 0 (by omega))
              have d1 := (bK.cell (q2 * 6 + 1)).trans (hc2 1 (by omega))
              have d2 := (bK.cell (q2 * 6 + 2)).trans (hc2 2 (by omega))
              have d3 := (bK.cell (q2 * 6 + 3)).trans (hc2 3 (by omega))
              have d4 := (bK.cell (q2 * 6 + 4)).trans (hc2 4 (by omega))
              have d5 := (bK.cell (q2 * 6 + 5)).trans (hc2 5 (by omega))
              obtain ⟨kv, hkv⟩ : ∃ kv, by9.getD q2 (false, .zero) = kv := ⟨_, rfl⟩
              rw [hkv] at d0 d1 d2 d3 d4 d5 d9 hst
              clear hkv hc1 hc2
              obtain ⟨bb, na, nlo, nhi, np, nle, nre⟩ := kv
              simp only [K6.cs, List.getElem?_cons_zero, List.getElem?_cons_succ] at d0 d1 d2 d3 d4 d5
              dsimp only at hst d9
              have HST := Lib.hid hst; clear hst bS bK KR2
              cases bb with
              | false =>
                have HST2 := Lib.hid (HST.out.trans (by simp) : knowns (by9.take (q2 + 1)) = knowns (by9.take q2))
                clear HST
                go_wp2
                go_roundg (ns - (q2 + 1))
                case measure => omega
                case rel => exact ⟨q2 + 1, mm, LA2, lc2, by omega, by omega, by go_num, rfl, by rw [HST2.out]; exact HM.out, by rw [HST2.out]; exact RowK.below HROW.out (by (repeat' (first | (with_reducible exact Below.refl _ _) | (with_reducible refine Below.setCell ?_ ?_ _) | (with_reducible refine Below.alloc ?_ ?_ _) | (with_reducible refine Below.drew ?_) | (with_reducible refine below_drewN ?_ _))) <;> (first | omega | (simp <;> omega))), (kept_call (show Below wr.heap.size wr _ from (by (repeat' (first | (with_reducible exact Below.refl _ _) | (with_reducible refine Below.setCell ?_ ?_ _) | (with_reducible refine Below.alloc ?_ ?_ _) | (with_reducible refine Below.drew ?_) | (with_reducible refine below_drewN ?_ _))) <;> (first | omega | (simp <;> omega)))) HKR2.out)⟩
              | true =>
                have HST2 := Lib.hid (HST.out.trans (by simp) : knowns (by9.take (q2 + 1)) = knowns (by9.take q2) ++ [(⟨na, nlo, nhi, np, nle, nre⟩ : K6)])
                clear HST
                have hm64 : mm ≤ 64 := by have h9 := knowns_len (by9.take q2); rw [← HM.out, List.length_take] at h9; omega
                obtain ⟨i0, hif, hz0, hz1, hz2⟩ := info_parts infoKn
                generalize hv : (Value.slice LA2 mm lc2) = v9 at *
                have hrl := RowK.lt HROW.out
                have HRW := Lib.hid HROW.out
                clear hv HROW
                go_wp2_with (at_builtin; go_loud (refine wpList_append_lies _ rfl _ _ 53 rfl wE.heap.size 44 i0 (.agg #[.int .i64 0, .int .i64 0, .int .i64 0, .int .i64 0, .int .i64 0, .int .i64 0]) 6 48 Tryz.underlying53 hif hz0 hz1 hz2 rfl (by decide) v9 mm (kCells (knowns (by9.take q2))) rfl (own_belowK HRW.out HM.out (by (repeat' (first | (with_reducible exact Below.refl _ _) | (with_reducible refine Below.setCell ?_ ?_ _) | (with_reducible refine Below.alloc ?_ ?_ _) | (with_reducible refine Below.drew ?_) | (with_reducible refine below_drewN ?_ _))) <;> (first | omega | (simp <;> omega)))) ⟨wr.heap.size, 0, none⟩ 1 1 [.int .i64 na, .int .i64 nlo, .int .i64 nhi, .int .i64 np, .int .i64 nle, .int .i64 nre] rfl rfl (World.news_of_block (t := 44) (fr := (0, 0)) (Blk.new _ _ _)) ?c2 (by decide) ?c3 ?c4 ?c5 _ rfl ?_))
                case c2 => first | exact ⟨rfl, rfl, rfl, rfl, rfl, rfl⟩ | (intro u hu; simp at hu; rcases hu with rfl | rfl | rfl | rfl | rfl | rfl <;> rfl)
                case c3 => unfold maxLen; omega
                case c4 => omega
                case c5 => first | omega | (simp <;> omega)
                intro g7 cp7 w7 hown hgrow hlie hglt
                have K7 : Below wE.heap.size wE w7 := (kept_call (show Below wr.heap.size wr _ from (by (repeat' (first | (with_reducible exact Below.refl _ _) | (with_reducible refine Below.setCell ?_ ?_ _) | (with_reducible refine Below.alloc ?_ ?_ _) | (with_reducible refine Below.drew ?_) | (with_reducible refine below_drewN ?_ _))) <;> (first | omega | (simp <;> omega)))) HKR2.out).grown hgrow (by simp; omega) (fun k hk => (hrl k hk).1)
                have R7 : RowK w7 wE.heap.size (.slice (some ⟨g7, 0, none⟩) (mm + 1) cp7) (knowns (by9.take q2) ++ [(⟨na, nlo, nhi, np, nle, nre⟩ : K6)]) := by
                  unfold RowK
                  rw [List.length_append, List.length_singleton, ← HM.out, kCells_snoc]; exact hown
                have H7 := Lib.hid (And.intro K7 R7)
                clear hown hgrow hlie hglt K7 R7
                go_wp2
                go_roundg (ns - (q2 + 1))
                case measure => omega
                case rel => exact ⟨q2 + 1, mm + 1, _, _, by omega, by omega, by go_num, rfl, by rw [HST2.out, List.length_append, List.length_singleton, ← HM.out], by rw [HST2.out]; exact H7.out.2, H7.out.1⟩
            · obtain rfl : q2 = ns := by omega
              have gp : decide ((q2 : Int) < (q2 : Int)) = false := decide_eq_false (by omega)
              have gpn : decide (q2 < q2) = false := decide_eq_false (by omega)
              have htk : by9.take q2 = by9 := by rw [← HBL.out]; exact List.take_length
              have hrow := HROW.out; have hm := HM.out
              rw [htk] at hrow hm
              have hkl := knowns_len by9
              have hm5 : mm ≤ 8 := by rw [HBL.out] at hkl; omega
              have HKN : Hid (KnAt wr LA2 mm (knowns by9)) := Lib.hid (by have h := hrow; subst hm; exact RowK.known h (by omega))
              obtain ⟨w20, rfl⟩ : ∃ x : World, x = wr := ⟨_, rfl⟩
              have HKE2 := Lib.hid (kept_call HKR2.out HKE.out : Below w.heap.size w w20)
              have P20 := Lib.hid (HPW.out.below HKE2.out); have Q20 := Lib.hid (HML.out.below HKE2.out)
              have HHM := Lib.hid hm; clear hm
              clear hrow htk hkl HROW HM HKR2 HKE HBS HBK HKS HBL HPW HML KR2 hrl lS lK lB ZR2 ZR
              go_wp2_with fail
              refine (RUN1.out _ (P20.out.below (Past.toBelow (by (repeat' (first | (with_reducible exact Past.refl _ _) | (with_reducible exact Past.refl _ _) | (with_reducible refine Past.drew ?_) | (with_reducible refine Past.drewN ?_ _) | (with_reducible refine Past.allocs ?_ _) | (with_reducible refine' Past.setIn ?_ ?_ _; rotate_left 1; (focus (simp; done))) | (with_reducible refine' Past.far ?_ ?_ _; rotate_left 1; (first | omega | (simp <;> omega)))))))) (Q20.out.below (Past.toBelow (by (repeat' (first | (with_reducible exact Past.refl _ _) | (with_reducible exact Past.refl _ _) | (with_reducible refine Past.drew ?_) | (with_reducible refine Past.drewN ?_ _) | (with_reducible refine Past.allocs ?_ _) | (with_reducible refine' Past.setIn ?_ ?_ _; rotate_left 1; (focus (simp; done))) | (with_reducible refine' Past.far ?_ ?_ _; rotate_left 1; (first | omega | (simp <;> omega))))))))).mono ?_
              rintro e v1 ⟨rfl, hb⟩
              have hq : Past [] _ v1 := Past.below hb
              have hq0 : Past [] _ v1 := Past.below hb
              clear hb
              have Kv1 : Past [] w20 v1 := Past.trans (by (repeat' (first | (with_reducible exact Past.refl _ _) | (with_reducible exact Past.refl _ _) | (with_reducible refine Past.drew ?_) | (with_reducible refine Past.drewN ?_ _) | (with_reducible refine Past.allocs ?_ _) | (with_reducible refine' Past.setIn ?_ ?_ _; rotate_left 1; (focus (simp; done))) | (with_reducible refine' Past.far ?_ ?_ _; rotate_left 1; (first | omega | (simp <;> omega)))))) hq
              have Zv1 : w20.heap.size ≤ v1.heap.size := Nat.le_trans (by first | exact Nat.le_refl _ | omega | (simp <;> omega)) hq.1
              clear hq
              clear hq0
              go_wp2_with fail
              refine (RN9.out _ _ (NumsR.newE [mu] (by first | rfl | (simp; done)))).mono ?_
              rintro e v2 ⟨rfl, hb⟩
              have hq : Past [] _ v2 := Past.below hb
              have hq0 : Past [] _ v2 := Past.below hb
              clear hb
              have Kv2 : Past [] w20 v2 := Past.trans (by (repeat' (first | (with_reducible exact Kv1) | (with_reducible exact Past.refl _ _) | (with_reducible refine Past.drew ?_) | (with_reducible refine Past.drewN ?_ _) | (with_reducible refine Past.allocs ?_ _) | (with_reducible refine' Past.setIn ?_ ?_ _; rotate_left 1; (focus (simp; done))) | (with_reducible refine' Past.far ?_ ?_ _; rotate_left 1; (first | omega | (simp <;> omega)))))) hq
              have Zv2 : v1.heap.size ≤ v2.heap.size := Nat.le_trans (by first | exact Nat.le_refl _ | omega | (simp <;> omega)) hq.1
              clear hq Kv1
              clear hq0
              have ea1 : ({ data := tx.toArray } : ByteArray) ++ { data := ln.toArray } = { data := M1.toArray } := by rw [← HM1.out]; simp [ByteArray.mk_append_mk]
              have ea2 : ({ data := M1.toArray } : ByteArray) ++ { data := lr.toArray } = { data := M2.toArray } := by rw [← HM2.out]; simp [ByteArray.mk_append_mk]
              go_wp2_with fail
              refine (RR9.out _ _ (NumsR.newE [0, mu] (by first | rfl | (simp; done)))).mono ?_
              rintro e v3 ⟨rfl, hb⟩
              have hq : Past [] _ v3 := Past.below hb
              have hq0 : Past [] _ v3 := Past.below hb
              clear hb
              have Kv3 : Past [] w20 v3 := Past.trans (by (repeat' (first | (with_reducible exact Kv2) | (with_reducible exact Past.refl _ _) | (with_reducible refine Past.drew ?_) | (with_reducible refine Past.drewN ?_ _) | (with_reducible refine Past.allocs ?_ _) | (with_reducible refine' Past.setIn ?_ ?_ _; rotate_left 1; (focus (simp; done))) | (with_reducible refine' Past.far ?_ ?_ _; rotate_left 1; (first | omega | (simp <;> omega)))))) hq
              have Zv3 : v2.heap.size ≤ v3.heap.size := Nat.le_trans (by first | exact Nat.le_refl _ | omega | (simp <;> omega)) hq.1
              clear hq Kv2
              clear hq0
              rcases HOR.out with ⟨hk0, o2, ho2⟩ | ⟨hk1, x, y, hmg, hvs, hx0, hx1, ho2⟩
              · rw [ho2] at RUN2
                unfold scR at RUN2
                dsimp only at RUN2
                have hm0 : mm = 0 := by rw [HHM.out, hk0]; rfl
                have hmg9 : MG (knowns by9) mu 0 0 0 4 := by have h9 := mgO_spec [] mu 0; rw [mgO_empty] at h9; rw [hk0]; exact h9
                have RM := Lib.hid (fun W h => imerge_fix hmg9 LA2 mm lc2 W h)
                clear hmg9 HOR ho2 hk0 HHM
                subst hm0
                go_wp2_with fail
                (try simp only [ea2])
                refine (RUN2.out _ (P20.out.below (Past.toBelow (by (repeat' (first | (with_reducible exact Kv3) | (with_reducible exact Past.refl _ _) | (with_reducible refine Past.drew ?_) | (with_reducible refine Past.drewN ?_ _) | (with_reducible refine Past.allocs ?_ _) | (with_reducible refine' Past.setIn ?_ ?_ _; rotate_left 1; (focus (simp; done))) | (with_reducible refine' Past.far ?_ ?_ _; rotate_left 1; (first | omega | (simp <;> omega)))))))) (Q20.out.below (Past.toBelow (by (repeat' (first | (with_reducible exact Kv3) | (with_reducible exact Past.refl _ _) | (with_reducible refine Past.drew ?_) | (with_reducible refine Past.drewN ?_ _) | (with_reducible refine Past.allocs ?_ _) | (with_reducible refine' Past.setIn ?_ ?_ _; rotate_left 1; (focus (simp; done))) | (with_reducible refine' Past.far ?_ ?_ _; rotate_left 1; (first | omega | (simp <;> omega))))))))).mono ?_
                rintro e v4 ⟨rfl, hb⟩
                have hq : Past [] _ v4 := Past.below hb
                have hq0 : Past [] _ v4 := Past.below hb
                clear hb
                have Kv4 : Past [] w20 v4 := Past.trans (by (repeat' (first | (with_reducible exact Kv3) | (with_reducible exact Past.refl _ _) | (with_reducible refine Past.drew ?_) | (with_reducible refine Past.drewN ?_ _) | (with_reducible refine Past.allocs ?_ _) | (with_reducible refine' Past.setIn ?_ ?_ _; rotate_left 1; (focus (simp; done))) | (with_reducible refine' Past.far ?_ ?_ _; rotate_left 1; (first | omega | (simp <;> omega)))))) hq
                have Zv4 : v3.heap.size ≤ v4.heap.size := Nat.le_trans (by first | exact Nat.le_refl _ | omega | (simp <;> omega)) hq.1
                clear hq Kv3
                clear hq0
                go_wp2_with fail
                refine (RM.out _ (HKN.out.below (Past.toBelow (by (repeat' (first | (with_reducible exact Kv4) | (with_reducible exact Past.refl _ _) | (with_reducible refine Past.drew ?_) | (with_reducible refine Past.drewN ?_ _) | (with_reducible refine Past.allocs ?_ _) | (with_reducible refine' Past.setIn ?_ ?_ _; rotate_left 1; (focus (simp; done))) | (with_reducible refine' Past.far ?_ ?_ _; rotate_left 1; (first | omega | (simp <;> omega))))))))).mono ?_
                rintro e v5 ⟨rfl, hb⟩
                have hq : Past [] _ v5 := Past.below hb
                have hq0 : Past [] _ v5 := Past.below hb
                clear hb
                have Kv5 : Past [] w20 v5 := Past.trans (by (repeat' (first | (with_reducible exact Kv4) | (with_reducible exact Past.refl _ _) | (with_reducible refine Past.drew ?_) | (with_reducible refine Past.drewN ?_ _) | (with_reducible refine Past.allocs ?_ _) | (with_reducible refine' Past.setIn ?_ ?_ _; rotate_left 1; (focus (simp; done))) | (with_reducible refine' Past.far ?_ ?_ _; rotate_left 1; (first | omega | (simp <;> omega)))))) hq
                have Zv5 : v4.heap.size ≤ v5.heap.size := Nat.le_trans (by first | exact Nat.le_refl _ | omega | (simp <;> omega)) hq.1
                clear hq Kv4
                clear hq0
                go_wp2_with fail
                refine (awake_any _).mono ?_
                rintro e v6 ⟨rfl, hb⟩
                have hq : Past [] _ v6 := Past.below hb
                have hq0 : Past [] _ v6 := Past.below hb
                clear hb
                have Kv6 : Past [] w20 v6 := Past.trans (by (repeat' (first | (with_reducible exact Kv5) | (with_reducible exact Past.refl _ _) | (with_reducible refine Past.drew ?_) | (with_reducible refine Past.drewN ?_ _) | (with_reducible refine Past.allocs ?_ _) | (with_reducible refine' Past.setIn ?_ ?_ _; rotate_left 1; (focus (simp; done))) | (with_reducible refine' Past.far ?_ ?_ _; rotate_left 1; (first | omega | (simp <;> omega)))))) hq
                have Zv6 : v5.heap.size ≤ v6.heap.size := Nat.le_trans (by first | exact Nat.le_refl _ | omega | (simp <;> omega)) hq.1
                clear hq Kv5
                clear hq0
                go_wp2
                go_ret
                exact ⟨rfl, kept_call (Past.toBelow (by (repeat' (first | (with_reducible exact Kv6) | (with_reducible exact Past.refl _ _) | (with_reducible refine Past.drew ?_) | (with_reducible refine Past.drewN ?_ _) | (with_reducible refine Past.allocs ?_ _) | (with_reducible refine' Past.setIn ?_ ?_ _; rotate_left 1; (focus (simp; done))) | (with_reducible refine' Past.far ?_ ?_ _; rotate_left 1; (first | omega | (simp <;> omega))))))) HKE2.out⟩
              · skip
                have hv9 := vS_true.1 hvs
                obtain ⟨lp, hlp, nlp, rp⟩ := top_line wSpan #[115, 112, 97, 110] rfl (by decide) [x, y] 2 rfl (by decide) (fun m hm => by simp only [List.mem_cons, List.mem_nil_iff, or_false] at hm; rcases hm with rfl | rfl <;> exact ⟨by omega, by omega⟩)
                obtain ⟨lc, hlc, nlc, rc⟩ := top_line [99, 108, 111, 99, 107] #[99, 108, 111, 99, 107] rfl (by decide) [x] 1 rfl (by decide) (fun m hm => by simp only [List.mem_cons, List.mem_nil_iff, or_false] at hm; subst hm; exact ⟨by omega, by omega⟩)
                obtain ⟨c0, hc0⟩ : ∃ c, lnW [99, 108, 111, 99, 107] [x] = c := ⟨_, rfl⟩
                rw [hc0] at hlc
                have hcl : clockL x = c0 ++ [32, 102, 114, 101, 101, 10] := by rw [← hc0]; simp [clockL, lnW, numL, wClock, wFree]
                obtain ⟨M5, hM5⟩ : ∃ M, out ++ lp = M := ⟨_, rfl⟩
                obtain ⟨M6, hM6⟩ : ∃ M, M5 ++ c0 = M := ⟨_, rfl⟩
                obtain ⟨M7, hM7⟩ : ∃ M, M6 ++ [32, 102, 114, 101, 101, 10] = M := ⟨_, rfl⟩
                have ho3 : scriptV noSave M2 = (M7, 0, 0) := by rw [ho2, hlp, hcl, hM5, ← List.append_assoc, hM6, hM7]
                rw [ho3] at RUN2
                unfold scR at RUN2
                dsimp only at RUN2
                have hmm1 : mm ≠ 0 := fun e => hk1 (List.length_eq_zero_iff.1 (by rw [← HHM.out]; exact e))
                have gz1 : ((mm : Int) == 0) = false := by simp; omega
                have gz2 : decide ((mm : Int) = 0) = false := decide_eq_false (by omega)
                have gz3 : decide (mm = 0) = false := decide_eq_false hmm1
                have gz4 : (mm == 0) = false := by simp; omega
                have RM := Lib.hid (fun W h => imerge_fix hmg LA2 mm lc2 W h)
                have hh9 : hdB x y mt = true := by unfold hdB; rw [hvs]; simp [hx0, hx1]
                have RH := Lib.hid (fun W => hh9 ▸ iholds_all x y mt W)
                have HM5 := Lib.hid hM5; have HM6 := Lib.hid hM6; have HM7 := Lib.hid hM7; have HLC := Lib.hid hlc; have RP := Lib.hid rp; have RC := Lib.hid rc
                have nc0 : c0.length + 1 = lc.length := by rw [← hlc]; simp
                obtain ⟨kc, hkc⟩ : ∃ k, c0.length = k := ⟨_, rfl⟩
                have nc9 : c0.length ≤ 300 := by omega
                have kc0 : kc ≤ lc.length := by omega
                have wlc : IntKind.i64.wrap ((lc.length : Int) - 1) = (kc : Int) := by rw [IntWalk.i64_in _ (by omega)]; omega
                have HKC := Lib.hid hkc
                have nM5 : M5.length ≤ 20000 := by rw [← hM5, List.length_append]; omega
                have nM6 : M6.length ≤ 40000 := by rw [← hM6, List.length_append]; omega
                have kcI : (kc : Int) ≤ (lc.length : Int) := by omega
                clear nc0 hkc
                clear hM5 hM6 hM7 hlp hlc rp rc hh9 hmg hc0 hcl ho2 ho3 HOR hk1 HHM hx0 hx1 hvs
                go_wp2_with fail
                (try simp only [ea2])
                refine (RUN2.out _ (P20.out.below (Past.toBelow (by (repeat' (first | (with_reducible exact Kv3) | (with_reducible exact Past.refl _ _) | (with_reducible refine Past.drew ?_) | (with_reducible refine Past.drewN ?_ _) | (with_reducible refine Past.allocs ?_ _) | (with_reducible refine' Past.setIn ?_ ?_ _; rotate_left 1; (focus (simp; done))) | (with_reducible refine' Past.far ?_ ?_ _; rotate_left 1; (first | omega | (simp <;> omega)))))))) (Q20.out.below (Past.toBelow (by (repeat' (first | (with_reducible exact Kv3) | (with_reducible exact Past.refl _ _) | (with_reducible refine Past.drew ?_) | (with_reducible refine Past.drewN ?_ _) | (with_reducible refine Past.allocs ?_ _) | (with_reducible refine' Past.setIn ?_ ?_ _; rotate_left 1; (focus (simp; done))) | (with_reducible refine' Past.far ?_ ?_ _; rotate_left 1; (first | omega | (simp <;> omega))))))))).mono ?_
                rintro e v4 ⟨rfl, hb⟩
                have hq : Past [] _ v4 := Past.below hb
                have hq0 : Past [] _ v4 := Past.below hb
                clear hb
                have Kv4 : Past [] w20 v4 := Past.trans (by (repeat' (first | (with_reducible exact Kv3) | (with_reducible exact Past.refl _ _) | (with_reducible refine Past.drew ?_) | (with_reducible refine Past.drewN ?_ _) | (with_reducible refine Past.allocs ?_ _) | (with_reducible refine' Past.setIn ?_ ?_ _; rotate_left 1; (focus (simp; done))) | (with_reducible refine' Past.far ?_ ?_ _; rotate_left 1; (first | omega | (simp <;> omega)))))) hq
                have Zv4 : v3.heap.size ≤ v4.heap.size := Nat.le_trans (by first | exact Nat.le_refl _ | omega | (simp <;> omega)) hq.1
                clear hq Kv3
                clear hq0
                go_wp2_with fail
                refine (RM.out _ (HKN.out.below (Past.toBelow (by (repeat' (first | (with_reducible exact Kv4) | (with_reducible exact Past.refl _ _) | (with_reducible refine Past.drew ?_) | (with_reducible refine Past.drewN ?_ _) | (with_reducible refine Past.allocs ?_ _) | (with_reducible refine' Past.setIn ?_ ?_ _; rotate_left 1; (focus (simp; done))) | (with_reducible refine' Past.far ?_ ?_ _; rotate_left 1; (first | omega | (simp <;> omega))))))))).mono ?_
                rintro e v5 ⟨rfl, hb⟩
                have hq : Past [] _ v5 := Past.below hb
                have hq0 : Past [] _ v5 := Past.below hb
                clear hb
                have Kv5 : Past [] w20 v5 := Past.trans (by (repeat' (first | (with_reducible exact Kv4) | (with_reducible exact Past.refl _ _) | (with_reducible refine Past.drew ?_) | (with_reducible refine Past.drewN ?_ _) | (with_reducible refine Past.allocs ?_ _) | (with_reducible refine' Past.setIn ?_ ?_ _; rotate_left 1; (focus (simp; done))) | (with_reducible refine' Past.far ?_ ?_ _; rotate_left 1; (first | omega | (simp <;> omega)))))) hq
                have Zv5 : v4.heap.size ≤ v5.heap.size := Nat.le_trans (by first | exact Nat.le_refl _ | omega | (simp <;> omega)) hq.1
                clear hq Kv4
                clear hq0
                go_upto_region 36 with fail
                obtain ⟨w30, hX9⟩ : ∃ x9 : World, x9 = v5.alloc (.cells #[.int .i64 x, .int .i64 y] 40) := ⟨_, rfl⟩
                have hqX : Past [] w20 w30 := by rw [hX9]; exact (by (repeat' (first | (with_reducible exact Kv5) | (with_reducible exact Past.refl _ _) | (with_reducible refine Past.drew ?_) | (with_reducible refine Past.drewN ?_ _) | (with_reducible refine Past.allocs ?_ _) | (with_reducible refine' Past.setIn ?_ ?_ _; rotate_left 1; (focus (simp; done))) | (with_reducible refine' Past.far ?_ ?_ _; rotate_left 1; (first | omega | (simp <;> omega))))))
                have bN' : Blk w30 (v5.heap.size) 40 #[.int .i64 x, .int .i64 y] := by rw [hX9]; exact Blk.new _ _ _
                have Zw30 : v5.heap.size + 1 ≤ w30.heap.size := by rw [hX9]; first | omega | (simp; done) | (simp [setAll_size]; done) | (simp <;> omega)
                rw [← hX9]
                clear hX9 Kv5
                have bN := bN'; clear bN'
                have hqXw30 := hqX; clear hqX
                obtain ⟨cN, fN, lN, eN, kN⟩ := Blk.facts bN
                have oN := lN
                refine' wp_region_calm (by kernel_rfl) (fun _ _ w' => Below w30.heap.size w30 w' ∧ Blk w' (v5.heap.size) 40 #[.int .i64 x, .int .i64 y]) (fun a b => Below a.heap.size a b) ((Is _) :: (Is _) :: (Is _) :: (Is _) :: (Is _) :: (Is _) :: (Is _) :: (Is _) :: (Is _) :: (Is _) :: (Is _) :: (Is _) :: (Is _) :: (Is _) :: (Is _) :: (Is _) :: (Is _) :: (SliceN [] 3 2 #[.int .i64 x, .int .i64 y]) :: (Is _) :: (Is (.string ⟨M5.toArray⟩)) :: (Is _) :: (Is _) :: (SliceN [] 3 1 #[.int .i64 x]) :: (Is _) :: (Is _) :: (Is _) :: (SliceN [] 3 1 #[.int .i64 x]) :: (Is _) :: (Is _) :: (Is _) :: (Is (.string ⟨c0.toArray⟩)) :: (Is (.string ⟨M6.toArray⟩)) :: (Is (.string ⟨M7.toArray⟩)) :: (Is _) :: (Is _) :: (Is _) :: []) ([] :: [0] :: [1] :: [2, 1] :: [1, 3] :: [4] :: [5] :: [5] :: [6, 7, 5] :: [5, 8] :: [9] :: [10] :: [10] :: [10] :: [13, 10] :: [10] :: [15, 10] :: [14, 16, 10] :: [17, 10] :: [12, 18, 10] :: [10] :: [20, 10] :: [21, 10] :: [22, 10] :: [10] :: [24, 10] :: [25, 10] :: [26, 10] :: [27, 10] :: [28, 10] :: [23, 29, 10] :: [19, 30, 10] :: [31, 10] :: [11, 32, 10] :: [10, 33] :: [34] :: []) [] [] rfl (calmB_of (by kernel_rfl)) (fun u => by (simp only [calmPut, Act.put, List.setIfInBounds_toArray, List.set_cons_zero, List.set_cons_succ, Nat.zero_add, Nat.reduceAdd]; rfl)) ?_ (calmKeep_cons keep_is' (calmKeep_cons keep_is' (calmKeep_cons keep_is' (calmKeep_cons keep_is' (calmKeep_cons keep_is' (calmKeep_cons keep_is' (calmKeep_cons keep_is' (calmKeep_cons keep_is' (calmKeep_cons keep_is' (calmKeep_cons keep_is' (calmKeep_cons keep_is' (calmKeep_cons keep_is' (calmKeep_cons keep_is' (calmKeep_cons keep_is' (calmKeep_cons keep_is' (calmKeep_cons keep_is' (calmKeep_cons keep_is' (calmKeep_cons keep_sliceK (calmKeep_cons keep_is' (calmKeep_cons keep_is' (calmKeep_cons keep_is' (calmKeep_cons keep_is' (calmKeep_cons keep_sliceK (calmKeep_cons keep_is' (calmKeep_cons keep_is' (calmKeep_cons keep_is' (calmKeep_cons keep_sliceK (calmKeep_cons keep_is' (calmKeep_cons keep_is' (calmKeep_cons keep_is' (calmKeep_cons keep_is' (calmKeep_cons keep_is' (calmKeep_cons keep_is' (calmKeep_cons keep_is' (calmKeep_cons keep_is' (calmKeep_cons keep_is' (calmKeep_nil))))))))))))))))))))))))))))))))))))) ?_ ?_
                · intro _
                  exact ⟨(Below.refl _ _).drew, bN.drew⟩
                rotate_left 29
                · skip
                  refine calmSteps_cons (fun u wq n hn hn2 hC hk K hK => ?_) ?_
                  · obtain ⟨hP, hN⟩ := hC
                    clear hk
                    refine calm_op (by rfl) ?_
                    go_simp
                    refine (awake_any _).mono ?_
                    rintro e w9 ⟨rfl, hbl⟩
                    exact hK _ _ _ rfl ⟨kept_call hbl hP, Blk.keep hbl hN⟩ hbl rfl
                  refine calmSteps_cons (fun u wq n hn hn2 hC hk K hK => ?_) ?_
                  · obtain ⟨hP, hN⟩ := hC
                    simp only [calmKnown, List.getElem?_cons_zero, List.getElem?_cons_succ, and_true, Is, Pure, Option.some.injEq, List.getD_cons_zero, List.getD_cons_succ, List.map_cons, List.map_nil] at hk
                    have h0 := hk; clear hk
                    simp only [h0] at hK ⊢
                    have H0 := Lib.hid h0; clear h0
                    go_simp
                    exact hK _ _ _ rfl ⟨hP, hN⟩ (Below.refl _ _) rfl
                  refine calmSteps_cons (fun u wq n hn hn2 hC hk K hK => ?_) ?_
                  · obtain ⟨hP, hN⟩ := hC
                    simp only [calmKnown, List.getElem?_cons_zero, List.getElem?_cons_succ, and_true, Is, Pure, Option.some.injEq, List.getD_cons_zero, List.getD_cons_succ, List.map_cons, List.map_nil] at hk
                    have h1 := hk; clear hk
                    simp only [h1] at hK ⊢
                    have H1 := Lib.hid h1; clear h1
                    go_simp
                    exact hK _ _ _ rfl ⟨hP, hN⟩ (Below.refl _ _) rfl
                  refine calmSteps_cons (fun u wq n hn hn2 hC hk K hK => ?_) ?_
                  · obtain ⟨hP, hN⟩ := hC
                    simp only [calmKnown, List.getElem?_cons_zero, List.getElem?_cons_succ, and_true, Is, Pure, Option.some.injEq, List.getD_cons_zero, List.getD_cons_succ, List.map_cons, List.map_nil] at hk
                    obtain ⟨h2, h1⟩ := hk
                    simp only [h2, h1] at hK ⊢
                    have H2 := Lib.hid h2; clear h2; have H1 := Lib.hid h1; clear h1
                    go_simp
                    exact hK _ _ _ rfl ⟨hP, hN⟩ (Below.refl _ _) rfl
                  refine calmSteps_cons (fun u wq n hn hn2 hC hk K hK => ?_) ?_
                  · obtain ⟨hP, hN⟩ := hC
                    simp only [calmKnown, List.getElem?_cons_zero, List.getElem?_cons_succ, and_true, Is, Pure, Option.some.injEq, List.getD_cons_zero, List.getD_cons_succ, List.map_cons, List.map_nil] at hk
                    obtain ⟨h1, h3⟩ := hk
                    simp only [h1, h3] at hK ⊢
                    have H1 := Lib.hid h1; clear h1; have H3 := Lib.hid h3; clear h3
                    go_simp
                    exact hK _ _ _ rfl ⟨hP, hN⟩ (Below.refl _ _) rfl
                  refine calmSteps_cons (fun u wq n hn hn2 hC hk K hK => ?_) ?_
                  · obtain ⟨hP, hN⟩ := hC
                    simp only [calmKnown, List.getElem?_cons_zero, List.getElem?_cons_succ, and_true, Is, Pure, Option.some.injEq, List.getD_cons_zero, List.getD_cons_succ, List.map_cons, List.map_nil] at hk
                    have h4 := hk; clear hk
                    simp only [h4] at hK ⊢
                    have H4 := Lib.hid h4; clear h4
                    go_simp
                    exact hK _ _ _ rfl ⟨hP, hN⟩ (Below.refl _ _) rfl
                  refine calmSteps_cons (fun u wq n hn hn2 hC hk K hK => ?_) ?_
                  · obtain ⟨hP, hN⟩ := hC
                    simp only [calmKnown, List.getElem?_cons_zero, List.getElem?_cons_succ, and_true, Is, Pure, Option.some.injEq, List.getD_cons_zero, List.getD_cons_succ, List.map_cons, List.map_nil] at hk
                    have h5 := hk; clear hk
                    simp only [h5] at hK ⊢
                    have H5 := Lib.hid h5; clear h5
                    have cN := hN.cell; have lN := hN.lt
                    go_simp
                    exact hK _ _ _ rfl ⟨hP, hN⟩ (Below.refl _ _) rfl
                  refine calmSteps_cons (fun u wq n hn hn2 hC hk K hK => ?_) ?_
                  · obtain ⟨hP, hN⟩ := hC
                    simp only [calmKnown, List.getElem?_cons_zero, List.getElem?_cons_succ, and_true, Is, Pure, Option.some.injEq, List.getD_cons_zero, List.getD_cons_succ, List.map_cons, List.map_nil] at hk
                    have h5 := hk; clear hk
                    simp only [h5] at hK ⊢
                    have H5 := Lib.hid h5; clear h5
                    go_simp
                    exact hK _ _ _ rfl ⟨hP, hN⟩ (Below.refl _ _) rfl
                  refine calmSteps_cons (fun u wq n hn hn2 hC hk K hK => ?_) ?_
                  · obtain ⟨hP, hN⟩ := hC
                    simp only [calmKnown, List.getElem?_cons_zero, List.getElem?_cons_succ, and_true, Is, Pure, Option.some.injEq, List.getD_cons_zero, List.getD_cons_succ, List.map_cons, List.map_nil] at hk
                    obtain ⟨h6, h7, h5⟩ := hk
                    simp only [h6, h7, h5] at hK ⊢
                    have H6 := Lib.hid h6; clear h6; have H7 := Lib.hid h7; clear h7; have H5 := Lib.hid h5; clear h5
                    refine calm_op (by rfl) ?_
                    go_simp
                    refine (RH.out _).mono ?_
                    rintro e w9 ⟨rfl, hbl⟩
                    exact hK _ _ _ rfl ⟨kept_call hbl hP, Blk.keep hbl hN⟩ hbl rfl
                  refine calmSteps_cons (fun u wq n hn hn2 hC hk K hK => ?_) ?_
                  · obtain ⟨hP, hN⟩ := hC
                    simp only [calmKnown, List.getElem?_cons_zero, List.getElem?_cons_succ, and_true, Is, Pure, Option.some.injEq, List.getD_cons_zero, List.getD_cons_succ, List.map_cons, List.map_nil] at hk
                    obtain ⟨h5, h8⟩ := hk
                    simp only [h5, h8] at hK ⊢
                    have H5 := Lib.hid h5; clear h5; have H8 := Lib.hid h8; clear h8
                    go_simp
                    exact hK _ _ _ rfl ⟨hP, hN⟩ (Below.refl _ _) rfl
                  refine calmSteps_cons (fun u wq n hn hn2 hC hk K hK => ?_) ?_
                  · obtain ⟨hP, hN⟩ := hC
                    simp only [calmKnown, List.getElem?_cons_zero, List.getElem?_cons_succ, and_true, Is, Pure, Option.some.injEq, List.getD_cons_zero, List.getD_cons_succ, List.map_cons, List.map_nil] at hk
                    have h9 := hk; clear hk
                    simp only [h9] at hK ⊢
                    have H9 := Lib.hid h9; clear h9
                    go_simp
                    exact hK _ _ _ rfl ⟨hP, hN⟩ (Below.refl _ _) rfl
                  refine calmSteps_cons (fun u wq n hn hn2 hC hk K hK => ?_) ?_
                  · obtain ⟨hP, hN⟩ := hC
                    simp only [calmKnown, List.getElem?_cons_zero, List.getElem?_cons_succ, and_true, Is, Pure, Option.some.injEq, List.getD_cons_zero, List.getD_cons_succ, List.map_cons, List.map_nil] at hk
                    have h10 := hk; clear hk
                    simp only [h10] at hK ⊢
                    have H10 := Lib.hid h10; clear h10
                    go_simp
                    exact hK _ _ _ rfl ⟨hP, hN⟩ (Below.refl _ _) rfl
                  refine calmSteps_cons (fun u wq n hn hn2 hC hk K hK => ?_) ?_
                  · obtain ⟨hP, hN⟩ := hC
                    simp only [calmKnown, List.getElem?_cons_zero, List.getElem?_cons_succ, and_true, Is, Pure, Option.some.injEq, List.getD_cons_zero, List.getD_cons_succ, List.map_cons, List.map_nil] at hk
                    have h10 := hk; clear hk
                    simp only [h10] at hK ⊢
                    have H10 := Lib.hid h10; clear h10
                    go_simp
                    exact hK _ _ _ rfl ⟨hP, hN⟩ (Below.refl _ _) rfl
                  refine calmSteps_cons (fun u wq n hn hn2 hC hk K hK => ?_) ?_
                  · obtain ⟨hP, hN⟩ := hC
                    simp only [calmKnown, List.getElem?_cons_zero, List.getElem?_cons_succ, and_true, Is, Pure, Option.some.injEq, List.getD_cons_zero, List.getD_cons_succ, List.map_cons, List.map_nil] at hk
                    have h10 := hk; clear hk
                    simp only [h10] at hK ⊢
                    have H10 := Lib.hid h10; clear h10
                    go_simp
                    exact hK _ _ _ rfl ⟨hP, hN⟩ (Below.refl _ _) rfl
                  refine calmSteps_cons (fun u wq n hn hn2 hC hk K hK => ?_) ?_
                  · obtain ⟨hP, hN⟩ := hC
                    simp only [calmKnown, List.getElem?_cons_zero, List.getElem?_cons_succ, and_true, Is, Pure, Option.some.injEq, List.getD_cons_zero, List.getD_cons_succ, List.map_cons, List.map_nil] at hk
                    obtain ⟨h13, h10⟩ := hk
                    simp only [h13, h10] at hK ⊢
                    have H13 := Lib.hid h13; clear h13; have H10 := Lib.hid h10; clear h10
                    have cN := hN.cell; have lN := hN.lt
                    go_simp
                    exact hK _ _ _ rfl ⟨hP, hN⟩ (Below.refl _ _) rfl
                  refine calmSteps_cons (fun u wq n hn hn2 hC hk K hK => ?_) ?_
                  · obtain ⟨hP, hN⟩ := hC
                    simp only [calmKnown, List.getElem?_cons_zero, List.getElem?_cons_succ, and_true, Is, Pure, Option.some.injEq, List.getD_cons_zero, List.getD_cons_succ, List.map_cons, List.map_nil] at hk
                    have h10 := hk; clear hk
                    simp only [h10] at hK ⊢
                    have H10 := Lib.hid h10; clear h10
                    go_simp
                    exact hK _ _ _ rfl ⟨hP, hN⟩ (Below.refl _ _) rfl
                  refine calmSteps_cons (fun u wq n hn hn2 hC hk K hK => ?_) ?_
                  · obtain ⟨hP, hN⟩ := hC
                    simp only [calmKnown, List.getElem?_cons_zero, List.getElem?_cons_succ, and_true, Is, Pure, Option.some.injEq, List.getD_cons_zero, List.getD_cons_succ, List.map_cons, List.map_nil] at hk
                    obtain ⟨h15, h10⟩ := hk
                    simp only [h15, h10] at hK ⊢
                    have H15 := Lib.hid h15; clear h15; have H10 := Lib.hid h10; clear h10
                    have cN := hN.cell; have lN := hN.lt
                    go_simp
                    exact hK _ _ _ rfl ⟨hP, hN⟩ (Below.refl _ _) rfl
                  refine calmSteps_cons (fun u wq n hn hn2 hC hk K hK => ?_) ?_
                  · obtain ⟨hP, hN⟩ := hC
                    simp only [calmKnown, List.getElem?_cons_zero, List.getElem?_cons_succ, and_true, Is, Pure, Option.some.injEq, List.getD_cons_zero, List.getD_cons_succ, List.map_cons, List.map_nil] at hk
                    obtain ⟨h14, h16, h10⟩ := hk
                    simp only [h14, h16, h10] at hK ⊢
                    have H14 := Lib.hid h14; clear h14; have H16 := Lib.hid h16; clear h16; have H10 := Lib.hid h10; clear h10
                    go_simp
                    exact hK _ _ _ rfl ⟨kept_call (below_new _ _) hP, hN.alloc _⟩ (below_new _ _) ⟨_, rfl, (by simp), Blk.new _ _ _⟩
                  refine calmSteps_cons (fun u wq n hn hn2 hC hk K hK => ?_) ?_
                  · obtain ⟨hP, hN⟩ := hC
                    simp only [calmKnown, List.getElem?_cons_zero, List.getElem?_cons_succ, and_true, Is, Pure, Option.some.injEq, List.getD_cons_zero, List.getD_cons_succ, List.map_cons, List.map_nil] at hk
                    obtain ⟨⟨g17, h17, -, q17⟩, h10⟩ := hk
                    simp only [h17, h10] at hK ⊢
                    have H17 := Lib.hid h17; clear h17; have H10 := Lib.hid h10; clear h10
                    refine calm_op (by rfl) ?_
                    go_simp
                    refine (RP.out _ _ (NumsR.of (zs := [x, y]) q17)).mono ?_
                    rintro e w9 ⟨rfl, hbl⟩
                    exact hK _ _ _ rfl ⟨kept_call hbl hP, Blk.keep hbl hN⟩ hbl rfl
                  refine calmSteps_cons (fun u wq n hn hn2 hC hk K hK => ?_) ?_
                  · obtain ⟨hP, hN⟩ := hC
                    simp only [calmKnown, List.getElem?_cons_zero, List.getElem?_cons_succ, and_true, Is, Pure, Option.some.injEq, List.getD_cons_zero, List.getD_cons_succ, List.map_cons, List.map_nil] at hk
                    obtain ⟨h12, h18, h10⟩ := hk
                    simp only [h12, h18, h10] at hK ⊢
                    have H12 := Lib.hid h12; clear h12; have H18 := Lib.hid h18; clear h18; have H10 := Lib.hid h10; clear h10
                    have ea : ({ data := out.toArray } : ByteArray) ++ { data := lp.toArray } = { data := M5.toArray } := by rw [← HM5.out]; simp [ByteArray.mk_append_mk]
                    go_simp
                    (try simp only [ea])
                    (try simp only [HM5.out])
                    rw [if_neg (by omega), Oper.upon_value]
                    exact hK _ _ _ rfl ⟨hP, hN⟩ (Below.refl _ _) rfl
                  refine calmSteps_cons (fun u wq n hn hn2 hC hk K hK => ?_) ?_
                  · obtain ⟨hP, hN⟩ := hC
                    simp only [calmKnown, List.getElem?_cons_zero, List.getElem?_cons_succ, and_true, Is, Pure, Option.some.injEq, List.getD_cons_zero, List.getD_cons_succ, List.map_cons, List.map_nil] at hk
                    have h10 := hk; clear hk
                    simp only [h10] at hK ⊢
                    have H10 := Lib.hid h10; clear h10
                    go_simp
                    exact hK _ _ _ rfl ⟨hP, hN⟩ (Below.refl _ _) rfl
                  refine calmSteps_cons (fun u wq n hn hn2 hC hk K hK => ?_) ?_
                  · obtain ⟨hP, hN⟩ := hC
                    simp only [calmKnown, List.getElem?_cons_zero, List.getElem?_cons_succ, and_true, Is, Pure, Option.some.injEq, List.getD_cons_zero, List.getD_cons_succ, List.map_cons, List.map_nil] at hk
                    obtain ⟨h20, h10⟩ := hk
                    simp only [h20, h10] at hK ⊢
                    have H20 := Lib.hid h20; clear h20; have H10 := Lib.hid h10; clear h10
                    have cN := hN.cell; have lN := hN.lt
                    go_simp
                    exact hK _ _ _ rfl ⟨hP, hN⟩ (Below.refl _ _) rfl
                  refine calmSteps_cons (fun u wq n hn hn2 hC hk K hK => ?_) ?_
                  · obtain ⟨hP, hN⟩ := hC
                    simp only [calmKnown, List.getElem?_cons_zero, List.getElem?_cons_succ, and_true, Is, Pure, Option.some.injEq, List.getD_cons_zero, List.getD_cons_succ, List.map_cons, List.map_nil] at hk
                    obtain ⟨h21, h10⟩ := hk
                    simp only [h21, h10] at hK ⊢
                    have H21 := Lib.hid h21; clear h21; have H10 := Lib.hid h10; clear h10
                    go_simp
                    exact hK _ _ _ rfl ⟨kept_call (below_new _ _) hP, hN.alloc _⟩ (below_new _ _) ⟨_, rfl, (by simp), Blk.new _ _ _⟩
                  refine calmSteps_cons (fun u wq n hn hn2 hC hk K hK => ?_) ?_
                  · obtain ⟨hP, hN⟩ := hC
                    simp only [calmKnown, List.getElem?_cons_zero, List.getElem?_cons_succ, and_true, Is, Pure, Option.some.injEq, List.getD_cons_zero, List.getD_cons_succ, List.map_cons, List.map_nil] at hk
                    obtain ⟨⟨g22, h22, -, q22⟩, h10⟩ := hk
                    simp only [h22, h10] at hK ⊢
                    have H22 := Lib.hid h22; clear h22; have H10 := Lib.hid h10; clear h10
                    refine calm_op (by rfl) ?_
                    go_simp
                    refine (RC.out _ _ (NumsR.of (zs := [x]) q22)).mono ?_
                    rintro e w9 ⟨rfl, hbl⟩
                    exact hK _ _ _ rfl ⟨kept_call hbl hP, Blk.keep hbl hN⟩ hbl rfl
                  refine calmSteps_cons (fun u wq n hn hn2 hC hk K hK => ?_) ?_
                  · obtain ⟨hP, hN⟩ := hC
                    simp only [calmKnown, List.getElem?_cons_zero, List.getElem?_cons_succ, and_true, Is, Pure, Option.some.injEq, List.getD_cons_zero, List.getD_cons_succ, List.map_cons, List.map_nil] at hk
                    have h10 := hk; clear hk
                    simp only [h10] at hK ⊢
                    have H10 := Lib.hid h10; clear h10
                    go_simp
                    exact hK _ _ _ rfl ⟨hP, hN⟩ (Below.refl _ _) rfl
                  refine calmSteps_cons (fun u wq n hn hn2 hC hk K hK => ?_) ?_
                  · obtain ⟨hP, hN⟩ := hC
                    simp only [calmKnown, List.getElem?_cons_zero, List.getElem?_cons_succ, and_true, Is, Pure, Option.some.injEq, List.getD_cons_zero, List.getD_cons_succ, List.map_cons, List.map_nil] at hk
                    obtain ⟨h24, h10⟩ := hk
                    simp only [h24, h10] at hK ⊢
                    have H24 := Lib.hid h24; clear h24; have H10 := Lib.hid h10; clear h10
                    have cN := hN.cell; have lN := hN.lt
                    go_simp
                    exact hK _ _ _ rfl ⟨hP, hN⟩ (Below.refl _ _) rfl
                  refine calmSteps_cons (fun u wq n hn hn2 hC hk K hK => ?_) ?_
                  · obtain ⟨hP, hN⟩ := hC
                    simp only [calmKnown, List.getElem?_cons_zero, List.getElem?_cons_succ, and_true, Is, Pure, Option.some.injEq, List.getD_cons_zero, List.getD_cons_succ, List.map_cons, List.map_nil] at hk
                    obtain ⟨h25, h10⟩ := hk
                    simp only [h25, h10] at hK ⊢
                    have H25 := Lib.hid h25; clear h25; have H10 := Lib.hid h10; clear h10
                    go_simp
                    exact hK _ _ _ rfl ⟨kept_call (below_new _ _) hP, hN.alloc _⟩ (below_new _ _) ⟨_, rfl, (by simp), Blk.new _ _ _⟩
                  refine calmSteps_cons (fun u wq n hn hn2 hC hk K hK => ?_) ?_
                  · obtain ⟨hP, hN⟩ := hC
                    simp only [calmKnown, List.getElem?_cons_zero, List.getElem?_cons_succ, and_true, Is, Pure, Option.some.injEq, List.getD_cons_zero, List.getD_cons_succ, List.map_cons, List.map_nil] at hk
                    obtain ⟨⟨g26, h26, -, q26⟩, h10⟩ := hk
                    simp only [h26, h10] at hK ⊢
                    have H26 := Lib.hid h26; clear h26; have H10 := Lib.hid h10; clear h10
                    refine calm_op (by rfl) ?_
                    go_simp
                    refine (RC.out _ _ (NumsR.of (zs := [x]) q26)).mono ?_
                    rintro e w9 ⟨rfl, hbl⟩
                    exact hK _ _ _ rfl ⟨kept_call hbl hP, Blk.keep hbl hN⟩ hbl rfl
                  refine calmSteps_cons (fun u wq n hn hn2 hC hk K hK => ?_) ?_
                  · obtain ⟨hP, hN⟩ := hC
                    simp only [calmKnown, List.getElem?_cons_zero, List.getElem?_cons_succ, and_true, Is, Pure, Option.some.injEq, List.getD_cons_zero, List.getD_cons_succ, List.map_cons, List.map_nil] at hk
                    obtain ⟨h27, h10⟩ := hk
                    simp only [h27, h10] at hK ⊢
                    have H27 := Lib.hid h27; clear h27; have H10 := Lib.hid h10; clear h10
                    go_simp
                    exact hK _ _ _ rfl ⟨hP, hN⟩ (Below.refl _ _) rfl
                  refine calmSteps_cons (fun u wq n hn hn2 hC hk K hK => ?_) ?_
                  · obtain ⟨hP, hN⟩ := hC
                    simp only [calmKnown, List.getElem?_cons_zero, List.getElem?_cons_succ, and_true, Is, Pure, Option.some.injEq, List.getD_cons_zero, List.getD_cons_succ, List.map_cons, List.map_nil] at hk
                    obtain ⟨h28, h10⟩ := hk
                    simp only [h28, h10] at hK ⊢
                    have H28 := Lib.hid h28; clear h28; have H10 := Lib.hid h10; clear h10
                    go_simp
                    exact hK _ _ _ rfl ⟨hP, hN⟩ (Below.refl _ _) rfl
                  refine calmSteps_cons (fun u wq n hn hn2 hC hk K hK => ?_) ?_
                  · obtain ⟨hP, hN⟩ := hC
                    simp only [calmKnown, List.getElem?_cons_zero, List.getElem?_cons_succ, and_true, Is, Pure, Option.some.injEq, List.getD_cons_zero, List.getD_cons_succ, List.map_cons, List.map_nil] at hk
                    obtain ⟨h23, h29, h10⟩ := hk
                    simp only [h23, h29, h10] at hK ⊢
                    have H23 := Lib.hid h23; clear h23; have H29 := Lib.hid h29; clear h29; have H10 := Lib.hid h10; clear h10
                    have ex : (ByteArray.mk lc.toArray).extract 0 kc = ⟨c0.toArray⟩ := by rw [← HLC.out, ← HKC.out]; simp [ByteArray.extract_mk]
                    go_simp
                    (try rw [if_pos (by first | omega | exact ⟨by omega, by omega⟩)])
                    (try simp only [Int.toNat_natCast, ex])
                    (try rw [Oper.upon_value])
                    exact hK _ _ _ rfl ⟨hP, hN⟩ (Below.refl _ _) rfl
                  refine calmSteps_cons (fun u wq n hn hn2 hC hk K hK => ?_) ?_
                  · obtain ⟨hP, hN⟩ := hC
                    simp only [calmKnown, List.getElem?_cons_zero, List.getElem?_cons_succ, and_true, Is, Pure, Option.some.injEq, List.getD_cons_zero, List.getD_cons_succ, List.map_cons, List.map_nil] at hk
                    obtain ⟨h19, h30, h10⟩ := hk
                    simp only [h19, h30, h10] at hK ⊢
                    have H19 := Lib.hid h19; clear h19; have H30 := Lib.hid h30; clear h30; have H10 := Lib.hid h10; clear h10
                    have ea : ({ data := M5.toArray } : ByteArray) ++ { data := c0.toArray } = { data := M6.toArray } := by rw [← HM6.out]; simp [ByteArray.mk_append_mk]
                    go_simp
                    (try simp only [ea])
                    (try simp only [HM6.out])
                    rw [if_neg (by omega), Oper.upon_value]
                    exact hK _ _ _ rfl ⟨hP, hN⟩ (Below.refl _ _) rfl
                  refine calmSteps_cons (fun u wq n hn hn2 hC hk K hK => ?_) ?_
                  · obtain ⟨hP, hN⟩ := hC
                    simp only [calmKnown, List.getElem?_cons_zero, List.getElem?_cons_succ, and_true, Is, Pure, Option.some.injEq, List.getD_cons_zero, List.getD_cons_succ, List.map_cons, List.map_nil] at hk
                    obtain ⟨h31, h10⟩ := hk
                    simp only [h31, h10] at hK ⊢
                    have H31 := Lib.hid h31; clear h31; have H10 := Lib.hid h10; clear h10
                    have ea : ({ data := M6.toArray } : ByteArray) ++ { data := [32, 102, 114, 101, 101, 10].toArray } = { data := M7.toArray } := by rw [← HM7.out]; simp [ByteArray.mk_append_mk]
                    go_simp
                    (try simp only [ea])
                    (try simp only [HM7.out])
                    rw [if_neg (by omega), Oper.upon_value]
                    exact hK _ _ _ rfl ⟨hP, hN⟩ (Below.refl _ _) rfl
                  refine calmSteps_cons (fun u wq n hn hn2 hC hk K hK => ?_) ?_
                  · obtain ⟨hP, hN⟩ := hC
                    simp only [calmKnown, List.getElem?_cons_zero, List.getElem?_cons_succ, and_true, Is, Pure, Option.some.injEq, List.getD_cons_zero, List.getD_cons_succ, List.map_cons, List.map_nil] at hk
                    obtain ⟨h11, h32, h10⟩ := hk
                    simp only [h11, h32, h10] at hK ⊢
                    have H11 := Lib.hid h11; clear h11; have H32 := Lib.hid h32; clear h32; have H10 := Lib.hid h10; clear h10
                    go_simp
                    exact hK _ _ _ rfl ⟨hP, hN⟩ (Below.refl _ _) rfl
                  refine calmSteps_cons (fun u wq n hn hn2 hC hk K hK => ?_) ?_
                  · obtain ⟨hP, hN⟩ := hC
                    simp only [calmKnown, List.getElem?_cons_zero, List.getElem?_cons_succ, and_true, Is, Pure, Option.some.injEq, List.getD_cons_zero, List.getD_cons_succ, List.map_cons, List.map_nil] at hk
                    obtain ⟨h10, h33⟩ := hk
                    simp only [h10, h33] at hK ⊢
                    have H10 := Lib.hid h10; clear h10; have H33 := Lib.hid h33; clear h33
                    go_simp
                    exact hK _ _ _ rfl ⟨hP, hN⟩ (Below.refl _ _) rfl
                  refine calmSteps_cons (fun u wq n hn hn2 hC hk K hK => ?_) ?_
                  · obtain ⟨hP, hN⟩ := hC
                    simp only [calmKnown, List.getElem?_cons_zero, List.getElem?_cons_succ, and_true, Is, Pure, Option.some.injEq, List.getD_cons_zero, List.getD_cons_succ, List.map_cons, List.map_nil] at hk
                    have h34 := hk; clear hk
                    simp only [h34] at hK ⊢
                    have H34 := Lib.hid h34; clear h34
                    go_simp
                    exact hK _ _ _ rfl ⟨hP, hN⟩ (Below.refl _ _) rfl
                  exact calmSteps_nil
                · intro u w31 hC hF
                  simp only [calmFacts, Is, and_true, true_and] at hF
                  obtain ⟨f_0, f_1, f_2, f_3, f_4, f_5, f_6, f_7, f_8, f_9, f_10, f_11, f_12, f_13, f_14, f_15, f_16, -, f_18, f_19, f_20, f_21, -, f_23, f_24, f_25, -, f_27, f_28, f_29, f_30, f_31, f_32, f_33, f_34, f_35⟩ := hF
                  simp only [f_0, f_1, f_2, f_3, f_4, f_5, f_6, f_7, f_8, f_9, f_10, f_11, f_12, f_13, f_14, f_15, f_16, f_18, f_19, f_20, f_21, f_23, f_24, f_25, f_27, f_28, f_29, f_30, f_31, f_32, f_33, f_34, f_35]
                  clear f_0 f_1 f_2 f_3 f_4 f_5 f_6 f_7 f_8 f_9 f_10 f_11 f_12 f_13 f_14 f_15 f_16 f_18 f_19 f_20 f_21 f_23 f_24 f_25 f_27 f_28 f_29 f_30 f_31 f_32 f_33 f_34 f_35
                  obtain ⟨hb31, -⟩ := hC
                  go_wp2
                  go_ret
                  exact ⟨rfl, kept_call hb31 (kept_call (Past.toBelow (by (repeat' (first | (with_reducible exact hqXw30) | (with_reducible exact Past.refl _ _) | (with_reducible refine Past.drew ?_) | (with_reducible refine Past.drewN ?_ _) | (with_reducible refine Past.allocs ?_ _) | (with_reducible refine' Past.setIn ?_ ?_ _; rotate_left 1; (focus (simp; done))) | (with_reducible refine' Past.far ?_ ?_ _; rotate_left 1; (first | omega | (simp <;> omega))))))) HKE2.out)⟩
end Go.Proofs.YtiinmhfolfgobaaGreatDoor
