/- The walk of the law IntervalUnion. -/
import Derived.Test.YteodoehhkhacoaaCommon
import Derived.Test.YteodoehhkhacoaaCalmS
import Derived.Test.YteodoehhkhacoaaKnown11
import Derived.Test.YteodoehhkhacoaaWorld
import Derived.Test.YteodoehhkhacoaaFrame
import Derived.Test.YteodoehhkhacoaaLaw11G
import Derived.Deep.LoopGhost
import Derived.Deep.DeepCutAuto
import Derived.Deep.QuietTactic
import Derived.BigQuiet
import Derived.OwnWalk
namespace Go.Proofs.Yteodoehhkhacoaa
open Go.RowKit
set_option linter.unusedSimpArgs false
set_option linter.unusedVariables false

/-- The spans that the law makes of a list of numbers. -/
def spn (l : List Int) (j : Nat) : Int × Int := (l.getD (2 * j) 0 % 2000 - 1000, l.getD (2 * j) 0 % 2000 - 1000 + (l.getD (2 * j + 1) 0).tdiv 4 % 500)
def spns (l : List Int) (q : Nat) : List (Int × Int) := (List.range q).map (spn l)
theorem spns_length (l : List Int) (q : Nat) : (spns l q).length = q := by simp [spns]
theorem spns_snoc (l : List Int) (q : Nat) : spns l (q + 1) = spns l q ++ [spn l q] := by simp [spns, List.range_succ]
theorem spns_ok (l : List Int) (q : Nat) : ∀ z ∈ spns l q, vS z.1 z.2 = true := by
  intro z hz
  obtain ⟨j, _, rfl⟩ := List.mem_map.1 hz
  exact world_span
theorem spns_bad (l : List Int) (q : Nat) : badS (spns l q) = false := List.any_eq_false.2 fun z hz => by simp [spns_ok l q z hz]
theorem calm_op {P : Program} {o : Oper} {a : Act} {w : World} {K : Act → World → Prop} {Q : Exit → Act → World → Prop} {b : Bool} {X : Prop} (hb : b = true) (h : o.wp P a w K Q) : if b = true then Oper.wp P o a w K Q else X := by rw [if_pos hb]; exact h
theorem tdiv4 {y : Int} (h : IntIn y) : y.tdiv 4 ≤ 9223372036854775807 ∧ -9223372036854775808 ≤ y.tdiv 4 := by unfold IntIn at h; rw [Int.tdiv_eq_ediv, show Int.sign 4 = 1 from rfl]; split <;> omega
theorem gref (w : World) (X : Option Nat) : w.grownBy w X := ⟨rfl, rfl, rfl, Nat.le_refl _, fun _ _ _ => rfl⟩
theorem gbelow {w w' : World} (X : Option Nat) (h : Below w.heap.size w w') : w.grownBy w' X := ⟨h.os, h.tape, h.output, h.size, fun k hk _ => h.block k hk⟩
theorem rowB {w w' : World} {base : Nat} {e : TypeId} {size : Nat} {v : Value} {n : Nat} {xs : List Value} (h : w.ownsRow base e size v n xs) (hb : Below w.heap.size w w') : w'.ownsRow base e size v n xs :=
  h.kept (row := none) ⟨hb.os, hb.tape, hb.output, hb.size, fun k hk _ => hb.block k hk⟩ (by cases v.ownBlock <;> simp)
theorem anyIn_snoc {t : Int} {zs : List (Int × Int)} {q : Nat} (h : q < zs.length) : anyIn t (zs.take (q + 1)) = (anyIn t (zs.take q) || hdB (zs.getD q (0, 0)).1 (zs.getD q (0, 0)).2 t) := by
  unfold anyIn; rw [take_snoc' (0, 0) zs h, List.any_append]; simp [inS, hdB]
theorem allIn_snoc {t : Int} {zs : List (Int × Int)} {q : Nat} (h : q < zs.length) : allIn t (zs.take (q + 1)) = (allIn t (zs.take q) && hdB (zs.getD q (0, 0)).1 (zs.getD q (0, 0)).2 t) := by
  unfold allIn; rw [take_snoc' (0, 0) zs h, List.all_append]; simp [inS, hdB]
/-- A slice of one span, on a block of its own. -/
def OneS (X : Option Nat) (x y : Int) : List Value → Value → World → Prop := fun _ v w => ∃ g, v = .slice (some ⟨g, 0, none⟩) 1 1 ∧ some g ≠ X ∧ Blk w g 23 #[.int .i64 x, .int .i64 y]
theorem keep_oneS {X : Option Nat} {x y : Int} : ∀ d v w w', w.grownBy w' X → OneS X x y d v w → OneS X x y d v w' := fun _ _ _ _ h ⟨g, e, hn, hb⟩ => ⟨g, e, hn, (h.block g hb.lt hn).trans hb⟩
theorem union_good {w w' : World} {zs : List (Int × Int)} {e : Ending} (hz : badS zs = false) (hl : zs.length ≤ 64) (h : UnionR w zs e w') : ∃ (us : List (Int × Int)) (A : Option Addr) (cap : Nat), e = .returned (.tuple #[.slice A us.length cap, .int .i64 0]) ∧ SpansAt w' A us.length us ∧ gapsS us ∧ (∀ z ∈ us, vS z.1 z.2 = true) ∧ (∀ t, anyIn t us = anyIn t zs) ∧ Below w.heap.size w w' := by
  obtain ⟨hb, ⟨h1, _⟩ | ⟨_, h1, _⟩ | ⟨_, _, ds, A, cap, hs, he, hsp⟩⟩ := h
  · rw [hz] at h1; cases h1
  · omega
  · have hv : ∀ z ∈ zs, vS z.1 z.2 = true := fun z hz' => by have h1 := List.any_eq_false.1 hz z hz'; simpa using h1
    obtain ⟨g1, g2, g3⟩ := union_law hs hv
    exact ⟨mergeS ds, A, cap, he, hsp, g1, g2, g3, hb⟩
theorem com_good (zs : List (Int × Int)) (hv : ∀ z ∈ zs, vS z.1 z.2 = true) : ∃ (c0 c1 : Int) (ok : Bool), comV zs = .tuple #[.agg #[.int .i64 c0, .int .i64 c1], .bool ok] ∧ ∀ t, -1152921504606846976 ≤ t → t ≤ 1152921504606846976 → (ok = true → hdB c0 c1 t = (decide (0 < zs.length) && allIn t zs)) ∧ (ok = false → (decide (0 < zs.length) && allIn t zs) = false) := by
  unfold comV comVb
  rcases hd : decide (0 < zs.length)
  · have hn : zs = [] := List.eq_nil_of_length_eq_zero (by have := of_decide_eq_false hd; omega)
    subst hn
    exact ⟨0, 0, false, rfl, fun t _ _ => ⟨fun h => (by cases h), fun _ => rfl⟩⟩
  · rcases hb : (comS zs true).2
    · refine ⟨0, 0, false, rfl, fun t h1 h2 => ⟨fun h => (by cases h), fun _ => ?_⟩⟩
      have := com_all zs hv t
      rw [hb, decide_eq_true (⟨h1, h2⟩ : _ ∧ _)] at this
      simpa using this.symm
    · refine ⟨(comS zs true).1.1, (comS zs true).1.2, true, rfl, fun t h1 h2 => ⟨fun _ => ?_, fun h => (by cases h)⟩⟩
      have := com_all zs hv t
      rw [hb, decide_eq_true (⟨h1, h2⟩ : _ ∧ _)] at this
      simpa [inS, hdB] using this
theorem rvalidB (lo hi : Int) (hv : vS lo hi = true) (w : World) : Calls Try.prog 39 #[.agg #[.int .i64 lo, .int .i64 hi]] w (RB w (.bool true)) := (rsvalid_any lo hi w).mono fun _ _ h => ⟨by rw [h.1, hv], h.2 ▸ (Below.refl _ _).alloc (Nat.le_refl _) _⟩
def MkRel (w : World) (l : List Int) (len : Nat) (G : Nat) (v i : Value) (wr : World) : Prop :=
  ∃ q p : Nat, q ≤ 20 ∧ p = 2 * q ∧ p ≤ len ∧ G = 20 - q ∧ i = .int .i64 (p : Int) ∧ (∃ A c, v = .slice A q c) ∧ wr.ownsRow w.heap.size 23 2 v q (cellsS (spns l q)) ∧ Below w.heap.size w wr
def InRel (w : World) (T c0 c1 : Int) (zs : List (Int × Int)) (len : Nat) (b0 : Bool) (G : Nat) (one all i : Value) (wr : World) : Prop :=
  ∃ q : Nat, q ≤ len ∧ G = len - q ∧ i = .int .i64 (q : Int) ∧ one = .bool (anyIn T (zs.take q)) ∧ all = .bool (b0 && allIn T (zs.take q)) ∧ Below w.heap.size w wr ∧ Blk wr w.heap.size 23 #[.int .i64 c0, .int .i64 c1]
def OutRel (w : World) (T c0 c1 : Int) (us : List (Int × Int)) (len : Nat) (G : Nat) (r inn i : Value) (wr : World) : Prop :=
  ∃ q : Nat, q ≤ len ∧ G = len - q ∧ i = .int .i64 (q : Int) ∧ r = .bool false ∧ inn = .bool (anyIn T (us.take q)) ∧ Below w.heap.size w wr ∧ Blk wr w.heap.size 23 #[.int .i64 c0, .int .i64 c1]
set_option maxRecDepth 100000 in
set_option maxHeartbeats 8000000 in
theorem intervalUnion_core (A : Option Addr) (len cap : Nat) (l : List Int) (tt : Int) (w : World) (h : IntsAt w A len l) :
    Calls Try.prog 8 #[.slice A len cap, .int .i64 tt] w (RB w (.bool true)) := by
  have hz := h.1
  have hl := h.2.1
  have H := Lib.hid h; clear h
  go_enter Try.func8, Try.ntmps8
  go_upto_block 0 with fail
  go_cut [5, 6] from 16 to 40 (fun v _ wx => ∃ q A0 c0, q ≤ 20 ∧ v = .slice A0 q c0 ∧ SpansAt wx A0 q (spns l q) ∧ Below w.heap.size w wx)
  case first =>
    go_wp2
    go_loopg [5, 6] 20 (fun G v i wr => MkRel w l len G v i wr)
    case atStart => exact ⟨0, 0, by omega, rfl, by omega, by omega, rfl, ⟨none, 0, rfl⟩, World.ownsRow_nil _ _ _ _, Below.refl _ _⟩
    case round =>
      obtain ⟨q, p, hq, hp, hpl, rfl, rfl, ⟨A0, c0, rfl⟩, hrow, hbel⟩ := hrel
      have ws := hbel.size
      have w1 : IntKind.i64.wrap ((p : Int) + 1) = ((p + 1 : Nat) : Int) := by simp [IntKind.wrap, IntKind.bits, IntKind.signed]; omega
      have w2 : IntKind.i64.wrap ((p : Int) + 2) = ((p + 2 : Nat) : Int) := by simp [IntKind.wrap, IntKind.bits, IntKind.signed]; omega
      by_cases hlt : p + 1 < len ∧ p < 40
      · obtain ⟨h1, h2⟩ := hlt
        have h0 : p < len := by omega
        have g1 : decide (((p + 1 : Nat) : Int) < (len : Int)) = true := decide_eq_true (by omega)
        have g2 : decide ((p : Int) < 40) = true := decide_eq_true (by omega)
        obtain ⟨bl, off, rfl, hb, hcs⟩ := H.out.2.2.2 (by omega)
        have e0 := hcs p (by omega)
        have e1 := hcs (p + 1) (by omega)
        have i1 := H.out.2.2.1 (l.getD (p + 1) 0) (by rw [List.getD_eq_getElem?_getD, List.getElem?_eq_getElem (by omega)]; exact List.getElem_mem _)
        clear hcs
        have hsn : spns l (q + 1) = spns l q ++ [(l.getD p 0 % 2000 - 1000, l.getD p 0 % 2000 - 1000 + (l.getD (p + 1) 0).tdiv 4 % 500)] := by rw [spns_snoc]; unfold spn; rw [← hp]
        generalize l.getD p 0 = x at *
        generalize l.getD (p + 1) 0 = y at *
        obtain ⟨d, hd⟩ : ∃ d, y.tdiv 4 = d := ⟨_, rfl⟩
        have wd : IntKind.i64.wrap d = d := by unfold IntIn at i1; simp only [IntKind.wrap, IntKind.bits, IntKind.signed]; have : d = y.tdiv 4 := hd.symm; have h4 : y.tdiv 4 ≤ 9223372036854775807 ∧ -9223372036854775808 ≤ y.tdiv 4 := tdiv4 i1; simp; omega
        rw [hd] at hsn
        have hcell : cellsS (spns l (q + 1)) = cellsS (spns l q) ++ [.int .i64 (x % 2000 - 1000), .int .i64 (x % 2000 - 1000 + d % 500)] := by rw [hsn, cellsS_snoc]
        have HS := Lib.hid hcell; have HPQ := Lib.hid hp; clear hcell hsn i1 hp
        have R := Lib.hid (wspanW x d)
        generalize hs0 : x % 2000 - 1000 = s0 at *
        generalize hs1 : s0 + d % 500 = s1 at *
        clear hs0 hs1
        have E0 : ∀ w', Below w.heap.size w w' → w'.cell? ⟨bl, off + p, none⟩ = some (.int .i64 x) := fun w' h => (h.cell (p := ⟨bl, off + p, none⟩) hb).trans e0
        have E1 : ∀ w', Below w.heap.size w w' → w'.cell? ⟨bl, off + (p + 1), none⟩ = some (.int .i64 y) := fun w' h => (h.cell (p := ⟨bl, off + (p + 1), none⟩) hb).trans e1
        clear e0 e1
        obtain ⟨i0, hi, hz0, hz1, hz2⟩ := info_parts infoSpan
        generalize cellsS (spns l q) = xs at *
        generalize hX : (Value.slice A0 q c0).ownBlock = X
        have hXl : ∀ k, X = some k → k < wr.heap.size := fun k hk => (hrow.lt k (hX.trans hk)).2
        generalize hv : Value.slice A0 q c0 = v at *
        have HV := Lib.hid hv; clear hv
        go_wp2_with fail
        refine' wp_region_calmS (by kernel_rfl) (fun n us w' => Below w.heap.size w w' ∧ wr.heap.size ≤ w'.heap.size ∧ (n = 0 → w'.ownsRow w.heap.size 23 2 v q xs) ∧ (n ≤ 1 → us[1]? = some v) ∧ (1 ≤ n → ∃ A c, us[0]? = some (.slice A (q + 1) c) ∧ w'.ownsRow w.heap.size 23 2 (.slice A (q + 1) c) (q + 1) (xs ++ [.int .i64 s0, .int .i64 s1])) ∧ (n = 2 → us[1]? = us[0]?)) (fun w w' => w.grownBy w' X) [(Is _), (Is _), (Is _), (Is _), (Is _), (Is _), (Is _), (Is _), (Is _), (Is _), (Is _), (Is _), (OneS X s0 s1), (fun _ _ _ => True), (fun _ _ _ => True)] [[], [], [], [1, 2], [3], [], [], [6], [5, 7], [8], [9], [4, 10], [11], [0, 12], [13]] [13, 14] [13, 14] rfl (by kernel_rfl) (fun u => by (simp only [calmPut, Act.put, List.setIfInBounds_toArray, List.set_cons_zero, List.set_cons_succ, Nat.zero_add, Nat.reduceAdd]; rfl)) ?_ (calmKeep_cons keep_is' (calmKeep_cons keep_is' (calmKeep_cons keep_is' (calmKeep_cons keep_is' (calmKeep_cons keep_is' (calmKeep_cons keep_is' (calmKeep_cons keep_is' (calmKeep_cons keep_is' (calmKeep_cons keep_is' (calmKeep_cons keep_is' (calmKeep_cons keep_is' (calmKeep_cons keep_is' (calmKeep_cons keep_oneS (calmKeep_cons keep_triv (calmKeep_cons keep_triv (calmKeep_nil)))))))))))))))) ?_ ?_
        · skip
          exact ⟨hbel.drew, Nat.le_refl _, fun _ => hrow, fun _ => rfl, fun h => absurd h (by decide), fun h => absurd h (by decide)⟩
        rotate_left 12
        · skip
          refine calmSteps_cons (fun u wq n hn hn2 hC hk K hK => ?_) ?_
          · obtain ⟨hP, hS, hR, hU, hM, hE⟩ := hC
            clear hk
            obtain rfl : n = 0 := Nat.le_zero.1 (hn2 0 13 rfl (by kernel_rfl)); replace hR := hR rfl
            have hu : u 14 = v := Option.some.inj (show some (u 14) = some v from hU (by decide))
            simp only [hu] at hK ⊢
            have HU := Lib.hid hu; clear hu
            go_simp
            exact hK _ _ _ rfl ⟨hP, hS, fun _ => hR, hU, fun h => absurd h (by decide), fun h => absurd h (by decide)⟩ (gref _ _) rfl
          refine calmSteps_cons (fun u wq n hn hn2 hC hk K hK => ?_) ?_
          · obtain ⟨hP, hS, hR, hU, hM, hE⟩ := hC
            clear hk
            obtain rfl : n = 0 := Nat.le_zero.1 (hn2 0 13 rfl (by kernel_rfl)); replace hR := hR rfl
            go_simp
            exact hK _ _ _ rfl ⟨hP, hS, fun _ => hR, hU, fun h => absurd h (by decide), fun h => absurd h (by decide)⟩ (gref _ _) rfl
          refine calmSteps_cons (fun u wq n hn hn2 hC hk K hK => ?_) ?_
          · obtain ⟨hP, hS, hR, hU, hM, hE⟩ := hC
            clear hk
            obtain rfl : n = 0 := Nat.le_zero.1 (hn2 0 13 rfl (by kernel_rfl)); replace hR := hR rfl
            go_simp
            exact hK _ _ _ rfl ⟨hP, hS, fun _ => hR, hU, fun h => absurd h (by decide), fun h => absurd h (by decide)⟩ (gref _ _) rfl
          refine calmSteps_cons (fun u wq n hn hn2 hC hk K hK => ?_) ?_
          · obtain ⟨hP, hS, hR, hU, hM, hE⟩ := hC
            simp only [calmKnown, List.getElem?_cons_zero, List.getElem?_cons_succ, and_true, Is, Pure, Option.some.injEq, List.getD_cons_zero, List.getD_cons_succ, List.map_cons, List.map_nil] at hk
            obtain ⟨h1, h2⟩ := hk
            simp only [h1, h2] at hK ⊢
            have H1 := Lib.hid h1; clear h1; have H2 := Lib.hid h2; clear h2
            obtain rfl : n = 0 := Nat.le_zero.1 (hn2 0 13 rfl (by kernel_rfl)); replace hR := hR rfl
            go_simp
            exact hK _ _ _ rfl ⟨hP, hS, fun _ => hR, hU, fun h => absurd h (by decide), fun h => absurd h (by decide)⟩ (gref _ _) rfl
          refine calmSteps_cons (fun u wq n hn hn2 hC hk K hK => ?_) ?_
          · obtain ⟨hP, hS, hR, hU, hM, hE⟩ := hC
            simp only [calmKnown, List.getElem?_cons_zero, List.getElem?_cons_succ, and_true, Is, Pure, Option.some.injEq, List.getD_cons_zero, List.getD_cons_succ, List.map_cons, List.map_nil] at hk
            have h3 := hk; clear hk
            simp only [h3] at hK ⊢
            have H3 := Lib.hid h3; clear h3
            obtain rfl : n = 0 := Nat.le_zero.1 (hn2 0 13 rfl (by kernel_rfl)); replace hR := hR rfl
            have z := E0 _ hP
            go_simp
            exact hK _ _ _ rfl ⟨hP, hS, fun _ => hR, hU, fun h => absurd h (by decide), fun h => absurd h (by decide)⟩ (gref _ _) rfl
          refine calmSteps_cons (fun u wq n hn hn2 hC hk K hK => ?_) ?_
          · obtain ⟨hP, hS, hR, hU, hM, hE⟩ := hC
            clear hk
            obtain rfl : n = 0 := Nat.le_zero.1 (hn2 0 13 rfl (by kernel_rfl)); replace hR := hR rfl
            go_simp
            exact hK _ _ _ rfl ⟨hP, hS, fun _ => hR, hU, fun h => absurd h (by decide), fun h => absurd h (by decide)⟩ (gref _ _) rfl
          refine calmSteps_cons (fun u wq n hn hn2 hC hk K hK => ?_) ?_
          · obtain ⟨hP, hS, hR, hU, hM, hE⟩ := hC
            clear hk
            obtain rfl : n = 0 := Nat.le_zero.1 (hn2 0 13 rfl (by kernel_rfl)); replace hR := hR rfl
            go_simp
            exact hK _ _ _ rfl ⟨hP, hS, fun _ => hR, hU, fun h => absurd h (by decide), fun h => absurd h (by decide)⟩ (gref _ _) rfl
          refine calmSteps_cons (fun u wq n hn hn2 hC hk K hK => ?_) ?_
          · obtain ⟨hP, hS, hR, hU, hM, hE⟩ := hC
            simp only [calmKnown, List.getElem?_cons_zero, List.getElem?_cons_succ, and_true, Is, Pure, Option.some.injEq, List.getD_cons_zero, List.getD_cons_succ, List.map_cons, List.map_nil] at hk
            have h6 := hk; clear hk
            simp only [h6] at hK ⊢
            have H6 := Lib.hid h6; clear h6
            obtain rfl : n = 0 := Nat.le_zero.1 (hn2 0 13 rfl (by kernel_rfl)); replace hR := hR rfl
            go_simp
            exact hK _ _ _ rfl ⟨hP, hS, fun _ => hR, hU, fun h => absurd h (by decide), fun h => absurd h (by decide)⟩ (gref _ _) rfl
          refine calmSteps_cons (fun u wq n hn hn2 hC hk K hK => ?_) ?_
          · obtain ⟨hP, hS, hR, hU, hM, hE⟩ := hC
            simp only [calmKnown, List.getElem?_cons_zero, List.getElem?_cons_succ, and_true, Is, Pure, Option.some.injEq, List.getD_cons_zero, List.getD_cons_succ, List.map_cons, List.map_nil] at hk
            obtain ⟨h5, h7⟩ := hk
            simp only [h5, h7] at hK ⊢
            have H5 := Lib.hid h5; clear h5; have H7 := Lib.hid h7; clear h7
            obtain rfl : n = 0 := Nat.le_zero.1 (hn2 0 13 rfl (by kernel_rfl)); replace hR := hR rfl
            go_simp
            exact hK _ _ _ rfl ⟨hP, hS, fun _ => hR, hU, fun h => absurd h (by decide), fun h => absurd h (by decide)⟩ (gref _ _) rfl
          refine calmSteps_cons (fun u wq n hn hn2 hC hk K hK => ?_) ?_
          · obtain ⟨hP, hS, hR, hU, hM, hE⟩ := hC
            simp only [calmKnown, List.getElem?_cons_zero, List.getElem?_cons_succ, and_true, Is, Pure, Option.some.injEq, List.getD_cons_zero, List.getD_cons_succ, List.map_cons, List.map_nil] at hk
            have h8 := hk; clear hk
            simp only [h8] at hK ⊢
            have H8 := Lib.hid h8; clear h8
            obtain rfl : n = 0 := Nat.le_zero.1 (hn2 0 13 rfl (by kernel_rfl)); replace hR := hR rfl
            have z := E1 _ hP
            go_simp
            exact hK _ _ _ rfl ⟨hP, hS, fun _ => hR, hU, fun h => absurd h (by decide), fun h => absurd h (by decide)⟩ (gref _ _) rfl
          refine calmSteps_cons (fun u wq n hn hn2 hC hk K hK => ?_) ?_
          · obtain ⟨hP, hS, hR, hU, hM, hE⟩ := hC
            simp only [calmKnown, List.getElem?_cons_zero, List.getElem?_cons_succ, and_true, Is, Pure, Option.some.injEq, List.getD_cons_zero, List.getD_cons_succ, List.map_cons, List.map_nil] at hk
            have h9 := hk; clear hk
            simp only [h9] at hK ⊢
            have H9 := Lib.hid h9; clear h9
            obtain rfl : n = 0 := Nat.le_zero.1 (hn2 0 13 rfl (by kernel_rfl)); replace hR := hR rfl
            go_simp
            exact hK _ _ _ rfl ⟨hP, hS, fun _ => hR, hU, fun h => absurd h (by decide), fun h => absurd h (by decide)⟩ (gref _ _) rfl
          refine calmSteps_cons (fun u wq n hn hn2 hC hk K hK => ?_) ?_
          · obtain ⟨hP, hS, hR, hU, hM, hE⟩ := hC
            simp only [calmKnown, List.getElem?_cons_zero, List.getElem?_cons_succ, and_true, Is, Pure, Option.some.injEq, List.getD_cons_zero, List.getD_cons_succ, List.map_cons, List.map_nil] at hk
            obtain ⟨h4, h10⟩ := hk
            simp only [h4, h10] at hK ⊢
            have H4 := Lib.hid h4; clear h4; have H10 := Lib.hid h10; clear h10
            obtain rfl : n = 0 := Nat.le_zero.1 (hn2 0 13 rfl (by kernel_rfl)); replace hR := hR rfl
            go_wp2_with fail
            refine (R.out _).mono ?_
            rintro e w2 ⟨rfl, hbl⟩
            exact hK _ _ _ rfl ⟨kept_call hbl hP, Nat.le_trans hS hbl.size, fun _ => rowB hR hbl, hU, fun h => absurd h (by decide), fun h => absurd h (by decide)⟩ (gbelow _ hbl) rfl
          refine calmSteps_cons (fun u wq n hn hn2 hC hk K hK => ?_) ?_
          · obtain ⟨hP, hS, hR, hU, hM, hE⟩ := hC
            simp only [calmKnown, List.getElem?_cons_zero, List.getElem?_cons_succ, and_true, Is, Pure, Option.some.injEq, List.getD_cons_zero, List.getD_cons_succ, List.map_cons, List.map_nil] at hk
            have h11 := hk; clear hk
            simp only [h11] at hK ⊢
            have H11 := Lib.hid h11; clear h11
            obtain rfl : n = 0 := Nat.le_zero.1 (hn2 0 13 rfl (by kernel_rfl)); replace hR := hR rfl
            have hb1 := (Below.refl wq.heap.size wq).alloc (Nat.le_refl _) (.cells #[.int .i64 s0, .int .i64 s1] 23)
            go_simp
            exact hK _ _ _ rfl ⟨hP.alloc hP.size _, by simp; omega, fun _ => hR.alloc _, hU, fun h => absurd h (by decide), fun h => absurd h (by decide)⟩ (gbelow _ hb1) ⟨wq.heap.size, rfl, fun e => absurd (hXl _ e.symm) (by omega), Blk.new _ _ _⟩
          refine calmSteps_cons (fun u wq n hn hn2 hC hk K hK => ?_) ?_
          · obtain ⟨hP, hS, hR, hU, hM, hE⟩ := hC
            simp only [calmKnown, List.getElem?_cons_zero, List.getElem?_cons_succ, and_true, Is, Pure, Option.some.injEq, List.getD_cons_zero, List.getD_cons_succ, List.map_cons, List.map_nil] at hk
            obtain ⟨h0, ⟨g, h12, hgX, hgB⟩⟩ := hk
            simp only [h0, h12] at hK ⊢
            have H0 := Lib.hid h0; clear h0; have H12 := Lib.hid h12; clear h12
            obtain rfl := hn 0 rfl
            replace hR := hR rfl
            refine calm_op (by rfl) ?_
            refine wp_append_own _ _ _ 55 rfl w.heap.size 23 i0 (.agg #[.int .i64 0, .int .i64 0]) 2 16 Try.underlying55 hi hz0 hz1 hz2 rfl (by decide) v q xs rfl hR ⟨g, 0, none⟩ 1 1 [.int .i64 s0, .int .i64 s1] rfl rfl (World.news_of_block (t := 23) (fr := (0, 0)) hgB) (by simp [Value.oneCell']) (by unfold maxLen; omega) (by omega) hP.size ?_
            intro v' w' hown' hgrow _
            obtain ⟨g', c', rfl⟩ := ownsRow_succ hown'
            rw [hX] at hgrow
            exact hK _ _ _ rfl ⟨hP.grown hgrow hP.size (fun k hk => (hR.lt k (hX.trans hk)).1), Nat.le_trans hS hgrow.size, fun h => absurd h (by decide), fun _ => hU (by decide), fun _ => ⟨_, _, rfl, hown'⟩, fun h => absurd h (by decide)⟩ hgrow trivial
          refine calmSteps_cons (fun u wq n hn hn2 hC hk K hK => ?_) ?_
          · obtain ⟨hP, hS, hR, hU, hM, hE⟩ := hC
            simp only [calmKnown, List.getElem?_cons_zero, List.getElem?_cons_succ, and_true, Is, Pure, Option.some.injEq, List.getD_cons_zero, List.getD_cons_succ, List.map_cons, List.map_nil] at hk
            have _p := hk; clear hk
            obtain rfl := hn 1 rfl
            go_simp
            exact hK _ _ _ rfl ⟨hP, hS, fun h => absurd h (by decide), fun h => absurd h (by decide), fun _ => hM (by decide), fun _ => rfl⟩ (gref _ _) trivial
          exact calmSteps_nil
        · intro u w3 hC hF
          obtain ⟨hP, -, -, -, hM, hE⟩ := hC
          obtain ⟨A1, c1, hu, hown⟩ := hM (by decide)
          have hu4 : u 14 = .slice A1 (q + 1) c1 := Option.some.inj (show some (u 14) = some _ from (hE rfl).trans hu)
          simp only [hu4]
          clear hF hu hu4 hE hM
          clear E0 E1
          go_wp2
          go_roundg (20 - (q + 1))
          case measure => have := HPQ.out; omega
          case rel => exact ⟨q + 1, p + 2, by have := HPQ.out; omega, by have := HPQ.out; omega, by omega, by omega, by go_num, ⟨A1, c1, rfl⟩, (by rw [HS.out]; exact hown), hP⟩
      · have hs := spans_of_own (zs := spns l q) (by rw [spns_length]; exact hrow) (by rw [spns_length]; omega)
        rw [spns_length] at hs
        have HS := Lib.hid hs; clear hs hp
        by_cases h1 : p + 1 < len
        · have g1 : decide (((p + 1 : Nat) : Int) < (len : Int)) = true := decide_eq_true (by omega)
          have g2 : decide ((p : Int) < 40) = false := decide_eq_false (by omega)
          go_wp2
          go_meet
          exact ⟨q, A0, c0, hq, rfl, HS.out, hbel⟩
        · have g1 : decide (((p + 1 : Nat) : Int) < (len : Int)) = false := decide_eq_false (by omega)
          go_wp2
          go_meet
          exact ⟨q, A0, c0, hq, rfl, HS.out, hbel⟩
  case rest =>
    obtain ⟨q, A0, cc, hq, rfl, hsp, hbx⟩ := hcut
    have hlen := spns_length l q
    have hok := spns_ok l q
    have hbad := spns_bad l q
    generalize spns l q = zs at *
    obtain ⟨d0, d1, ok, hcv, hcl⟩ := com_good zs hok
    have hT : -1100 ≤ tt % 2400 - 1100 ∧ tt % 2400 - 1100 < 1300 := by omega
    have R1 := Lib.hid (wwithinW tt 2400 wc (by omega) (by omega))
    have wT : IntKind.i64.wrap (tt % 2400 - 1100) = tt % 2400 - 1100 := by simp [IntKind.wrap, IntKind.bits, IntKind.signed]; omega
    generalize tt % 2400 = T0 at *
    have HU := Lib.hid ((union_any A0 q cc zs wc hsp).mono fun _ _ h => union_good hbad (by omega) h)
    have HL := Lib.hid (And.intro hok hbad); clear hok hbad
    have S := Lib.hid hsp; clear hsp
    have CL := Lib.hid (hcl (T0 - 1100) (by omega) (by omega)); clear hcl
    have CV := Lib.hid hcv; clear hcv
    have HLEN := Lib.hid hlen; clear hlen
    go_wp2_with fail
    refine R1.out.mono ?_
    rintro e w1 ⟨rfl, rfl⟩
    go_wp2_with fail
    refine HU.out.mono ?_
    rintro e w2 ⟨us, A1, cap1, rfl, hus, hgap, huv, hin, hb2⟩
    have HIN := Lib.hid (hin (T0 - 1100)); clear hin
    have HG := Lib.hid hgap; have HV := Lib.hid huv; clear hgap huv
    have hcm := common_any A0 q cc zs w2 (S.out.below hb2)
    rw [CV.out] at hcm
    have HCM := Lib.hid hcm; clear hcm
    have ull := hus.2.1
    have U := Lib.hid hus; clear hus
    go_wp2_with fail
    refine HCM.out.mono ?_
    rintro e w3 ⟨rfl, hb3⟩
    have S3 := Lib.hid ((S.out.below hb2).below hb3)
    have U3 := Lib.hid (U.out.below hb3)
    have hb03 := Lib.hid (kept_call hb3 (kept_call hb2 hbx)); clear hb2 hb3 hbx
    generalize T0 - 1100 = T at *
    generalize hul : us.length = ul at *
    have HUL := Lib.hid hul; clear hul
    go_wp2
    go_loopg [11, 12, 14] q (fun G one all i wr => InRel w3 T d0 d1 zs q (decide (0 < (q : Int))) G one all i wr)
    case atStart => exact ⟨0, by omega, by omega, rfl, rfl, by simp [allIn], (by (repeat' (first | (with_reducible exact Below.refl _ _) | (with_reducible refine Below.setCell ?_ ?_ _) | (with_reducible refine Below.alloc ?_ ?_ _) | (with_reducible refine Below.drew ?_) | (with_reducible refine below_drewN ?_ _))) <;> (first | omega | (simp <;> omega))), (by (repeat' (first | ((with_reducible refine' Blk.newE ?_); first | rfl | (simp; done)) | (with_reducible refine' Blk.alloc ?_ _) | (with_reducible refine' Blk.drew ?_) | (with_reducible refine' Blk.drewN ?_ _) | (with_reducible refine' Blk.put ?_ ?_) | (with_reducible refine' Blk.far ?_ ?_ _) | exact rfl)) <;> (first | omega | (simp <;> omega)))⟩
    case round =>
      obtain ⟨k, hk, rfl, rfl, rfl, rfl, hbel, hC⟩ := hrel
      by_cases hlt : k < q
      · obtain ⟨bl, off, rfl, hb, hcs⟩ := S3.out.2.2 (by omega)
        obtain ⟨e0, e1⟩ := hcs k hlt
        clear hcs
        have e0 := (hbel.cell (p := ⟨bl, off + k * 2, none⟩) hb).trans e0
        have e1 := (hbel.cell (p := ⟨bl, off + k * 2 + 1, none⟩) hb).trans e1
        have m1 := anyIn_snoc (t := T) (zs := zs) (q := k) (by rw [HLEN.out]; exact hlt)
        have m2 : (decide (0 < (q : Int)) && allIn T (zs.take (k + 1))) = ((decide (0 < (q : Int)) && allIn T (zs.take k)) && hdB (zs.getD k (0, 0)).1 (zs.getD k (0, 0)).2 T) := by rw [allIn_snoc (by rw [HLEN.out]; exact hlt), Bool.and_assoc]
        generalize zs.getD k (0, 0) = z at *
        obtain ⟨x, y⟩ := z
        dsimp only at e0 e1 m1 m2
        have hbW : bl < wr.heap.size := Nat.lt_of_lt_of_le hb hbel.size
        have R := Lib.hid (rholds_all x y T)
        generalize hdB x y T = hv at *
        generalize anyIn T (zs.take k) = a at *
        generalize (decide (0 < (q : Int)) && allIn T (zs.take k)) = bb at *
        have M1 := Lib.hid m1; have M2 := Lib.hid m2; clear m1 m2
        have gk : decide ((k : Int) < (q : Int)) = true := decide_eq_true (by omega)
        cases a with
        | true =>
          cases bb with
          | true =>
            go_wp2_with fail
            refine (R.out _).mono ?_
            rintro e w5 ⟨rfl, hb5⟩
            have e0' := cell_below hb5 e0
            have e1' := cell_below hb5 e1
            have HE := Lib.hid (And.intro (kept_call hb5 hbel) (Blk.keep hb5 hC))
            clear hbel hC hb5
            go_wp2
            go_roundg (q - (k + 1))
            case measure => omega
            case rel => exact ⟨k + 1, by omega, by omega, by go_num, by rw [M1.out]; simp, by rw [M2.out]; simp, HE.out.1, HE.out.2⟩
          | false =>
            have HE := Lib.hid (And.intro hbel hC)
            clear hbel hC
            go_wp2
            go_roundg (q - (k + 1))
            case measure => omega
            case rel => exact ⟨k + 1, by omega, by omega, by go_num, by rw [M1.out]; simp, by rw [M2.out]; simp, HE.out.1, HE.out.2⟩
        | false =>
          cases bb with
          | true =>
            go_wp2_with fail
            refine (R.out _).mono ?_
            rintro e w5 ⟨rfl, hb5⟩
            have e0' := cell_below hb5 e0
            have e1' := cell_below hb5 e1
            go_wp2_with fail
            refine (R.out _).mono ?_
            rintro e w6 ⟨rfl, hb6⟩
            have HE := Lib.hid (And.intro (kept_call hb6 (kept_call hb5 hbel)) (Blk.keep hb6 (Blk.keep hb5 hC)))
            clear hbel hC hb5 hb6
            go_wp2
            go_roundg (q - (k + 1))
            case measure => omega
            case rel => exact ⟨k + 1, by omega, by omega, by go_num, by rw [M1.out]; simp, by rw [M2.out]; simp, HE.out.1, HE.out.2⟩
          | false =>
            go_wp2_with fail
            refine (R.out _).mono ?_
            rintro e w5 ⟨rfl, hb5⟩
            have HE := Lib.hid (And.intro (kept_call hb5 hbel) (Blk.keep hb5 hC))
            clear hbel hC hb5
            go_wp2
            go_roundg (q - (k + 1))
            case measure => omega
            case rel => exact ⟨k + 1, by omega, by omega, by go_num, by rw [M1.out]; simp, by rw [M2.out]; simp, HE.out.1, HE.out.2⟩
      · obtain rfl : k = q := by omega
        have gk : decide ((k : Int) < (k : Int)) = false := decide_eq_false (by omega)
        have ht : zs.take k = zs := List.take_of_length_le (by rw [HLEN.out]; omega)
        rw [ht]
        clear ht
        obtain ⟨wo, hwo⟩ : ∃ wo, wo = wr := ⟨_, rfl⟩
        subst hwo
        have HBO := Lib.hid (And.intro hbel hC); clear hbel hC
        generalize hall : (decide (0 < (k : Int)) && allIn T zs) = bb at *
        have HALL := Lib.hid hall; clear hall
        generalize hone : anyIn T zs = o1 at *
        have HONE := Lib.hid hone; clear hone
        go_wp2
        go_loopg [4, 13, 15] ul (fun G r inn i wr => OutRel w3 T d0 d1 us ul G r inn i wr)
        case atStart => exact ⟨0, by omega, by omega, rfl, rfl, rfl, HBO.out.1, HBO.out.2⟩
        case round =>
          obtain ⟨j, hj, rfl, rfl, rfl, rfl, hbel, hC⟩ := hrel
          by_cases hlt : j < ul
          · obtain ⟨bl, off, rfl, hb, hcs⟩ := U3.out.2.2 (by omega)
            obtain ⟨e0, e1⟩ := hcs j hlt
            have m1 := anyIn_snoc (t := T) (zs := us) (q := j) (by rw [HUL.out]; exact hlt)
            have hv := HV.out (us.getD j (0, 0)) (by rw [List.getD_eq_getElem?_getD, List.getElem?_eq_getElem (by rw [HUL.out]; exact hlt)]; exact List.getElem_mem _)
            have R2 := Lib.hid (fun w => rvalidB (us.getD j (0, 0)).1 (us.getD j (0, 0)).2 hv w)
            have hbW : bl < wr.heap.size := Nat.lt_of_lt_of_le hb hbel.size
            have R := Lib.hid (rholds_all (us.getD j (0, 0)).1 (us.getD j (0, 0)).2 T)
            have gj : decide ((j : Int) < (ul : Int)) = true := decide_eq_true (by omega)
            rcases Nat.eq_zero_or_pos j with hj0 | hj0
            · have g0 : decide (0 < (j : Int)) = false := decide_eq_false (by omega)
              have g0n : (0 < j) = False := by simp [hj0]
              have HJ0 := Lib.hid hj0
              clear hcs hv hj0
              generalize us.getD j (0, 0) = z at *
              obtain ⟨x, y⟩ := z
              dsimp only at e0 e1 m1 R R2
              have E0 : ∀ w', Below w3.heap.size w3 w' → w'.cell? ⟨bl, off + j * 2, none⟩ = some (.int .i64 x) := fun w' h => (h.cell (p := ⟨bl, off + j * 2, none⟩) hb).trans e0
              have E1 : ∀ w', Below w3.heap.size w3 w' → w'.cell? ⟨bl, off + j * 2 + 1, none⟩ = some (.int .i64 y) := fun w' h => (h.cell (p := ⟨bl, off + j * 2 + 1, none⟩) hb).trans e1
              clear e0 e1
              generalize hdB x y T = hv at *
              generalize anyIn T (us.take j) = a at *
              have M1 := Lib.hid m1; clear m1
              cases a with
              | true =>
                go_wp2_with fail
                refine' wp_region_calm (by kernel_rfl) (fun _ _ w' => Below w3.heap.size w3 w' ∧ Blk w' w3.heap.size 23 #[.int .i64 d0, .int .i64 d1]) (fun _ _ => True) [(Is _), (Is _), (Is _), (Is _), (Is _), (Is _), (Is _), (Is _), (Is _), (Is _), (Is _), (Is _), (Is _), (Is _), (Is _), (Is _), (Is _), (Is _), (Is _), (Is _), (Is _), (Is _), (Is _), (Is _), (Is _)] [[], [], [0, 1], [2], [3], [4], [5], [6], [7, 6], [8, 6], [9], [9], [10, 11, 9], [12, 9], [13, 9], [9], [9], [16, 9], [15, 17, 9], [18, 9], [19, 9], [20, 9], [14, 21, 9], [9, 22, 6], [6, 23]] [] [] rfl (by kernel_rfl) (fun u => by (simp only [calmPut, Act.put, List.setIfInBounds_toArray, List.set_cons_zero, List.set_cons_succ, Nat.zero_add, Nat.reduceAdd]; rfl)) ?_ (calmKeep_cons keep_is' (calmKeep_cons keep_is' (calmKeep_cons keep_is' (calmKeep_cons keep_is' (calmKeep_cons keep_is' (calmKeep_cons keep_is' (calmKeep_cons keep_is' (calmKeep_cons keep_is' (calmKeep_cons keep_is' (calmKeep_cons keep_is' (calmKeep_cons keep_is' (calmKeep_cons keep_is' (calmKeep_cons keep_is' (calmKeep_cons keep_is' (calmKeep_cons keep_is' (calmKeep_cons keep_is' (calmKeep_cons keep_is' (calmKeep_cons keep_is' (calmKeep_cons keep_is' (calmKeep_cons keep_is' (calmKeep_cons keep_is' (calmKeep_cons keep_is' (calmKeep_cons keep_is' (calmKeep_cons keep_is' (calmKeep_cons keep_is' (calmKeep_nil)))))))))))))))))))))))))) ?_ ?_
                · intro _
                  exact ⟨hbel.drew, Blk.drew hC⟩
                rotate_left 25
                · skip
                  refine calmSteps_cons (fun u wq n hn hn2 hC hk K hK => ?_) ?_
                  · obtain ⟨hP, hD⟩ := hC
                    clear hk
                    go_simp
                    exact hK _ _ _ rfl ⟨hP, hD⟩ trivial rfl
                  refine calmSteps_cons (fun u wq n hn hn2 hC hk K hK => ?_) ?_
                  · obtain ⟨hP, hD⟩ := hC
                    clear hk
                    go_simp
                    exact hK _ _ _ rfl ⟨hP, hD⟩ trivial rfl
                  refine calmSteps_cons (fun u wq n hn hn2 hC hk K hK => ?_) ?_
                  · obtain ⟨hP, hD⟩ := hC
                    simp only [calmKnown, List.getElem?_cons_zero, List.getElem?_cons_succ, and_true, Is, Pure, Option.some.injEq, List.getD_cons_zero, List.getD_cons_succ, List.map_cons, List.map_nil] at hk
                    obtain ⟨h0, h1⟩ := hk
                    simp only [h0, h1] at hK ⊢
                    have H0 := Lib.hid h0; clear h0; have H1 := Lib.hid h1; clear h1
                    go_simp
                    exact hK _ _ _ rfl ⟨hP, hD⟩ trivial rfl
                  refine calmSteps_cons (fun u wq n hn hn2 hC hk K hK => ?_) ?_
                  · obtain ⟨hP, hD⟩ := hC
                    simp only [calmKnown, List.getElem?_cons_zero, List.getElem?_cons_succ, and_true, Is, Pure, Option.some.injEq, List.getD_cons_zero, List.getD_cons_succ, List.map_cons, List.map_nil] at hk
                    have h2 := hk; clear hk
                    simp only [h2] at hK ⊢
                    have H2 := Lib.hid h2; clear h2
                    have z0 := E0 _ hP
                    have z1 := E1 _ hP
                    go_simp
                    exact hK _ _ _ rfl ⟨hP, hD⟩ trivial rfl
                  refine calmSteps_cons (fun u wq n hn hn2 hC hk K hK => ?_) ?_
                  · obtain ⟨hP, hD⟩ := hC
                    simp only [calmKnown, List.getElem?_cons_zero, List.getElem?_cons_succ, and_true, Is, Pure, Option.some.injEq, List.getD_cons_zero, List.getD_cons_succ, List.map_cons, List.map_nil] at hk
                    have h3 := hk; clear hk
                    simp only [h3] at hK ⊢
                    have H3 := Lib.hid h3; clear h3
                    go_wp2_with fail
                    refine (R2.out _).mono ?_
                    rintro e w6 ⟨rfl, hbl⟩
                    exact hK _ _ _ rfl ⟨kept_call hbl hP, Blk.keep hbl hD⟩ trivial rfl
                  refine calmSteps_cons (fun u wq n hn hn2 hC hk K hK => ?_) ?_
                  · obtain ⟨hP, hD⟩ := hC
                    simp only [calmKnown, List.getElem?_cons_zero, List.getElem?_cons_succ, and_true, Is, Pure, Option.some.injEq, List.getD_cons_zero, List.getD_cons_succ, List.map_cons, List.map_nil] at hk
                    have h4 := hk; clear hk
                    simp only [h4] at hK ⊢
                    have H4 := Lib.hid h4; clear h4
                    go_simp
                    exact hK _ _ _ rfl ⟨hP, hD⟩ trivial rfl
                  refine calmSteps_cons (fun u wq n hn hn2 hC hk K hK => ?_) ?_
                  · obtain ⟨hP, hD⟩ := hC
                    simp only [calmKnown, List.getElem?_cons_zero, List.getElem?_cons_succ, and_true, Is, Pure, Option.some.injEq, List.getD_cons_zero, List.getD_cons_succ, List.map_cons, List.map_nil] at hk
                    have h5 := hk; clear hk
                    simp only [h5] at hK ⊢
                    have H5 := Lib.hid h5; clear h5
                    go_simp
                    exact hK _ _ _ rfl ⟨hP, hD⟩ trivial rfl
                  refine calmSteps_cons (fun u wq n hn hn2 hC hk K hK => ?_) ?_
                  · obtain ⟨hP, hD⟩ := hC
                    simp only [calmKnown, List.getElem?_cons_zero, List.getElem?_cons_succ, and_true, Is, Pure, Option.some.injEq, List.getD_cons_zero, List.getD_cons_succ, List.map_cons, List.map_nil] at hk
                    have h6 := hk; clear hk
                    simp only [h6] at hK ⊢
                    have H6 := Lib.hid h6; clear h6
                    go_simp
                    exact hK _ _ _ rfl ⟨hP, hD⟩ trivial rfl
                  refine calmSteps_cons (fun u wq n hn hn2 hC hk K hK => ?_) ?_
                  · obtain ⟨hP, hD⟩ := hC
                    simp only [calmKnown, List.getElem?_cons_zero, List.getElem?_cons_succ, and_true, Is, Pure, Option.some.injEq, List.getD_cons_zero, List.getD_cons_succ, List.map_cons, List.map_nil] at hk
                    obtain ⟨h7, h6⟩ := hk
                    simp only [h7, h6] at hK ⊢
                    have H7 := Lib.hid h7; clear h7; have H6 := Lib.hid h6; clear h6
                    go_simp
                    exact hK _ _ _ rfl ⟨hP, hD⟩ trivial rfl
                  refine calmSteps_cons (fun u wq n hn hn2 hC hk K hK => ?_) ?_
                  · obtain ⟨hP, hD⟩ := hC
                    simp only [calmKnown, List.getElem?_cons_zero, List.getElem?_cons_succ, and_true, Is, Pure, Option.some.injEq, List.getD_cons_zero, List.getD_cons_succ, List.map_cons, List.map_nil] at hk
                    obtain ⟨h8, h6⟩ := hk
                    simp only [h8, h6] at hK ⊢
                    have H8 := Lib.hid h8; clear h8; have H6 := Lib.hid h6; clear h6
                    go_simp
                    exact hK _ _ _ rfl ⟨hP, hD⟩ trivial rfl
                  refine calmSteps_cons (fun u wq n hn hn2 hC hk K hK => ?_) ?_
                  · obtain ⟨hP, hD⟩ := hC
                    simp only [calmKnown, List.getElem?_cons_zero, List.getElem?_cons_succ, and_true, Is, Pure, Option.some.injEq, List.getD_cons_zero, List.getD_cons_succ, List.map_cons, List.map_nil] at hk
                    have h9 := hk; clear hk
                    simp only [h9] at hK ⊢
                    have H9 := Lib.hid h9; clear h9
                    go_simp
                    exact hK _ _ _ rfl ⟨hP, hD⟩ trivial rfl
                  refine calmSteps_cons (fun u wq n hn hn2 hC hk K hK => ?_) ?_
                  · obtain ⟨hP, hD⟩ := hC
                    simp only [calmKnown, List.getElem?_cons_zero, List.getElem?_cons_succ, and_true, Is, Pure, Option.some.injEq, List.getD_cons_zero, List.getD_cons_succ, List.map_cons, List.map_nil] at hk
                    have h9 := hk; clear hk
                    simp only [h9] at hK ⊢
                    have H9 := Lib.hid h9; clear h9
                    go_simp
                    exact hK _ _ _ rfl ⟨hP, hD⟩ trivial rfl
                  refine calmSteps_cons (fun u wq n hn hn2 hC hk K hK => ?_) ?_
                  · obtain ⟨hP, hD⟩ := hC
                    simp only [calmKnown, List.getElem?_cons_zero, List.getElem?_cons_succ, and_true, Is, Pure, Option.some.injEq, List.getD_cons_zero, List.getD_cons_succ, List.map_cons, List.map_nil] at hk
                    obtain ⟨h10, h11, h9⟩ := hk
                    simp only [h10, h11, h9] at hK ⊢
                    have H10 := Lib.hid h10; clear h10; have H11 := Lib.hid h11; clear h11; have H9 := Lib.hid h9; clear h9
                    go_simp
                    exact hK _ _ _ rfl ⟨hP, hD⟩ trivial rfl
                  refine calmSteps_cons (fun u wq n hn hn2 hC hk K hK => ?_) ?_
                  · obtain ⟨hP, hD⟩ := hC
                    simp only [calmKnown, List.getElem?_cons_zero, List.getElem?_cons_succ, and_true, Is, Pure, Option.some.injEq, List.getD_cons_zero, List.getD_cons_succ, List.map_cons, List.map_nil] at hk
                    obtain ⟨h12, h9⟩ := hk
                    simp only [h12, h9] at hK ⊢
                    have H12 := Lib.hid h12; clear h12; have H9 := Lib.hid h9; clear h9
                    go_simp
                    exact hK _ _ _ rfl ⟨hP, hD⟩ trivial rfl
                  refine calmSteps_cons (fun u wq n hn hn2 hC hk K hK => ?_) ?_
                  · obtain ⟨hP, hD⟩ := hC
                    simp only [calmKnown, List.getElem?_cons_zero, List.getElem?_cons_succ, and_true, Is, Pure, Option.some.injEq, List.getD_cons_zero, List.getD_cons_succ, List.map_cons, List.map_nil] at hk
                    obtain ⟨h13, h9⟩ := hk
                    simp only [h13, h9] at hK ⊢
                    have H13 := Lib.hid h13; clear h13; have H9 := Lib.hid h9; clear h9
                    go_simp
                    exact hK _ _ _ rfl ⟨hP, hD⟩ trivial rfl
                  refine calmSteps_cons (fun u wq n hn hn2 hC hk K hK => ?_) ?_
                  · obtain ⟨hP, hD⟩ := hC
                    simp only [calmKnown, List.getElem?_cons_zero, List.getElem?_cons_succ, and_true, Is, Pure, Option.some.injEq, List.getD_cons_zero, List.getD_cons_succ, List.map_cons, List.map_nil] at hk
                    have h9 := hk; clear hk
                    simp only [h9] at hK ⊢
                    have H9 := Lib.hid h9; clear h9
                    go_simp
                    exact hK _ _ _ rfl ⟨hP, hD⟩ trivial rfl
                  refine calmSteps_cons (fun u wq n hn hn2 hC hk K hK => ?_) ?_
                  · obtain ⟨hP, hD⟩ := hC
                    simp only [calmKnown, List.getElem?_cons_zero, List.getElem?_cons_succ, and_true, Is, Pure, Option.some.injEq, List.getD_cons_zero, List.getD_cons_succ, List.map_cons, List.map_nil] at hk
                    have h9 := hk; clear hk
                    simp only [h9] at hK ⊢
                    have H9 := Lib.hid h9; clear h9
                    go_simp
                    exact hK _ _ _ rfl ⟨hP, hD⟩ trivial rfl
                  refine calmSteps_cons (fun u wq n hn hn2 hC hk K hK => ?_) ?_
                  · obtain ⟨hP, hD⟩ := hC
                    simp only [calmKnown, List.getElem?_cons_zero, List.getElem?_cons_succ, and_true, Is, Pure, Option.some.injEq, List.getD_cons_zero, List.getD_cons_succ, List.map_cons, List.map_nil] at hk
                    obtain ⟨h16, h9⟩ := hk
                    simp only [h16, h9] at hK ⊢
                    have H16 := Lib.hid h16; clear h16; have H9 := Lib.hid h9; clear h9
                    go_simp
                    exact hK _ _ _ rfl ⟨hP, hD⟩ trivial rfl
                  refine calmSteps_cons (fun u wq n hn hn2 hC hk K hK => ?_) ?_
                  · obtain ⟨hP, hD⟩ := hC
                    simp only [calmKnown, List.getElem?_cons_zero, List.getElem?_cons_succ, and_true, Is, Pure, Option.some.injEq, List.getD_cons_zero, List.getD_cons_succ, List.map_cons, List.map_nil] at hk
                    obtain ⟨h15, h17, h9⟩ := hk
                    simp only [h15, h17, h9] at hK ⊢
                    have H15 := Lib.hid h15; clear h15; have H17 := Lib.hid h17; clear h17; have H9 := Lib.hid h9; clear h9
                    go_simp
                    exact hK _ _ _ rfl ⟨hP, hD⟩ trivial rfl
                  refine calmSteps_cons (fun u wq n hn hn2 hC hk K hK => ?_) ?_
                  · obtain ⟨hP, hD⟩ := hC
                    simp only [calmKnown, List.getElem?_cons_zero, List.getElem?_cons_succ, and_true, Is, Pure, Option.some.injEq, List.getD_cons_zero, List.getD_cons_succ, List.map_cons, List.map_nil] at hk
                    obtain ⟨h18, h9⟩ := hk
                    simp only [h18, h9] at hK ⊢
                    have H18 := Lib.hid h18; clear h18; have H9 := Lib.hid h9; clear h9
                    go_simp
                    exact hK _ _ _ rfl ⟨hP, hD⟩ trivial rfl
                  refine calmSteps_cons (fun u wq n hn hn2 hC hk K hK => ?_) ?_
                  · obtain ⟨hP, hD⟩ := hC
                    simp only [calmKnown, List.getElem?_cons_zero, List.getElem?_cons_succ, and_true, Is, Pure, Option.some.injEq, List.getD_cons_zero, List.getD_cons_succ, List.map_cons, List.map_nil] at hk
                    obtain ⟨h19, h9⟩ := hk
                    simp only [h19, h9] at hK ⊢
                    have H19 := Lib.hid h19; clear h19; have H9 := Lib.hid h9; clear h9
                    go_simp
                    exact hK _ _ _ rfl ⟨hP, hD⟩ trivial rfl
                  refine calmSteps_cons (fun u wq n hn hn2 hC hk K hK => ?_) ?_
                  · obtain ⟨hP, hD⟩ := hC
                    simp only [calmKnown, List.getElem?_cons_zero, List.getElem?_cons_succ, and_true, Is, Pure, Option.some.injEq, List.getD_cons_zero, List.getD_cons_succ, List.map_cons, List.map_nil] at hk
                    obtain ⟨h20, h9⟩ := hk
                    simp only [h20, h9] at hK ⊢
                    have H20 := Lib.hid h20; clear h20; have H9 := Lib.hid h9; clear h9
                    go_simp
                    exact hK _ _ _ rfl ⟨hP, hD⟩ trivial rfl
                  refine calmSteps_cons (fun u wq n hn hn2 hC hk K hK => ?_) ?_
                  · obtain ⟨hP, hD⟩ := hC
                    simp only [calmKnown, List.getElem?_cons_zero, List.getElem?_cons_succ, and_true, Is, Pure, Option.some.injEq, List.getD_cons_zero, List.getD_cons_succ, List.map_cons, List.map_nil] at hk
                    obtain ⟨h14, h21, h9⟩ := hk
                    simp only [h14, h21, h9] at hK ⊢
                    have H14 := Lib.hid h14; clear h14; have H21 := Lib.hid h21; clear h21; have H9 := Lib.hid h9; clear h9
                    go_simp
                    exact hK _ _ _ rfl ⟨hP, hD⟩ trivial rfl
                  refine calmSteps_cons (fun u wq n hn hn2 hC hk K hK => ?_) ?_
                  · obtain ⟨hP, hD⟩ := hC
                    simp only [calmKnown, List.getElem?_cons_zero, List.getElem?_cons_succ, and_true, Is, Pure, Option.some.injEq, List.getD_cons_zero, List.getD_cons_succ, List.map_cons, List.map_nil] at hk
                    obtain ⟨h9, h22, h6⟩ := hk
                    simp only [h9, h22, h6] at hK ⊢
                    have H9 := Lib.hid h9; clear h9; have H22 := Lib.hid h22; clear h22; have H6 := Lib.hid h6; clear h6
                    go_simp
                    exact hK _ _ _ rfl ⟨hP, hD⟩ trivial rfl
                  refine calmSteps_cons (fun u wq n hn hn2 hC hk K hK => ?_) ?_
                  · obtain ⟨hP, hD⟩ := hC
                    simp only [calmKnown, List.getElem?_cons_zero, List.getElem?_cons_succ, and_true, Is, Pure, Option.some.injEq, List.getD_cons_zero, List.getD_cons_succ, List.map_cons, List.map_nil] at hk
                    obtain ⟨h6, h23⟩ := hk
                    simp only [h6, h23] at hK ⊢
                    have H6 := Lib.hid h6; clear h6; have H23 := Lib.hid h23; clear h23
                    go_simp
                    exact hK _ _ _ rfl ⟨hP, hD⟩ trivial rfl
                  exact calmSteps_nil
                · intro u w7 hC hF
                  obtain ⟨hP, hD⟩ := hC
                  simp only [calmFacts, Is, and_true] at hF
                  obtain ⟨f0, f1, f2, f3, f4, f5, f6, f7, f8, f9, f10, f11, f12, f13, f14, f15, f16, f17, f18, f19, f20, f21, f22, f23, f24⟩ := hF
                  simp only [f0, f1, f2, f3, f4, f5, f6, f7, f8, f9, f10, f11, f12, f13, f14, f15, f16, f17, f18, f19, f20, f21, f22, f23, f24]
                  clear f0 f1 f2 f3 f4 f5 f6 f7 f8 f9 f10 f11 f12 f13 f14 f15 f16 f17 f18 f19 f20 f21 f22 f23 f24
                  clear E0 E1
                  go_wp2
                  go_roundg (ul - (j + 1))
                  case measure => omega
                  case rel => exact ⟨j + 1, by omega, by omega, by go_num, rfl, by rw [M1.out]; simp, hP, hD⟩
              | false =>
                go_wp2_with fail
                refine (R.out _).mono ?_
                rintro e w5 ⟨rfl, hb5⟩
                have hC5 := Blk.keep hb5 hC
                have hbel5 := kept_call hb5 hbel
                clear hb5 hbel hC
                go_wp2_with fail
                refine' wp_region_calm (by kernel_rfl) (fun _ _ w' => Below w3.heap.size w3 w' ∧ Blk w' w3.heap.size 23 #[.int .i64 d0, .int .i64 d1]) (fun _ _ => True) [(Is _), (Is _), (Is _), (Is _), (Is _), (Is _), (Is _), (Is _), (Is _), (Is _), (Is _), (Is _), (Is _), (Is _), (Is _), (Is _), (Is _), (Is _), (Is _), (Is _), (Is _), (Is _), (Is _), (Is _), (Is _)] [[], [], [0, 1], [2], [3], [4], [5], [6], [7, 6], [8, 6], [9], [9], [10, 11, 9], [12, 9], [13, 9], [9], [9], [16, 9], [15, 17, 9], [18, 9], [19, 9], [20, 9], [14, 21, 9], [9, 22, 6], [6, 23]] [] [] rfl (by kernel_rfl) (fun u => by (simp only [calmPut, Act.put, List.setIfInBounds_toArray, List.set_cons_zero, List.set_cons_succ, Nat.zero_add, Nat.reduceAdd]; rfl)) ?_ (calmKeep_cons keep_is' (calmKeep_cons keep_is' (calmKeep_cons keep_is' (calmKeep_cons keep_is' (calmKeep_cons keep_is' (calmKeep_cons keep_is' (calmKeep_cons keep_is' (calmKeep_cons keep_is' (calmKeep_cons keep_is' (calmKeep_cons keep_is' (calmKeep_cons keep_is' (calmKeep_cons keep_is' (calmKeep_cons keep_is' (calmKeep_cons keep_is' (calmKeep_cons keep_is' (calmKeep_cons keep_is' (calmKeep_cons keep_is' (calmKeep_cons keep_is' (calmKeep_cons keep_is' (calmKeep_cons keep_is' (calmKeep_cons keep_is' (calmKeep_cons keep_is' (calmKeep_cons keep_is' (calmKeep_cons keep_is' (calmKeep_cons keep_is' (calmKeep_nil)))))))))))))))))))))))))) ?_ ?_
                · intro _
                  exact ⟨hbel5.drew, Blk.drew hC5⟩
                rotate_left 25
                · skip
                  refine calmSteps_cons (fun u wq n hn hn2 hC hk K hK => ?_) ?_
                  · obtain ⟨hP, hD⟩ := hC
                    clear hk
                    go_simp
                    exact hK _ _ _ rfl ⟨hP, hD⟩ trivial rfl
                  refine calmSteps_cons (fun u wq n hn hn2 hC hk K hK => ?_) ?_
                  · obtain ⟨hP, hD⟩ := hC
                    clear hk
                    go_simp
                    exact hK _ _ _ rfl ⟨hP, hD⟩ trivial rfl
                  refine calmSteps_cons (fun u wq n hn hn2 hC hk K hK => ?_) ?_
                  · obtain ⟨hP, hD⟩ := hC
                    simp only [calmKnown, List.getElem?_cons_zero, List.getElem?_cons_succ, and_true, Is, Pure, Option.some.injEq, List.getD_cons_zero, List.getD_cons_succ, List.map_cons, List.map_nil] at hk
                    obtain ⟨h0, h1⟩ := hk
                    simp only [h0, h1] at hK ⊢
                    have H0 := Lib.hid h0; clear h0; have H1 := Lib.hid h1; clear h1
                    go_simp
                    exact hK _ _ _ rfl ⟨hP, hD⟩ trivial rfl
                  refine calmSteps_cons (fun u wq n hn hn2 hC hk K hK => ?_) ?_
                  · obtain ⟨hP, hD⟩ := hC
                    simp only [calmKnown, List.getElem?_cons_zero, List.getElem?_cons_succ, and_true, Is, Pure, Option.some.injEq, List.getD_cons_zero, List.getD_cons_succ, List.map_cons, List.map_nil] at hk
                    have h2 := hk; clear hk
                    simp only [h2] at hK ⊢
                    have H2 := Lib.hid h2; clear h2
                    have z0 := E0 _ hP
                    have z1 := E1 _ hP
                    go_simp
                    exact hK _ _ _ rfl ⟨hP, hD⟩ trivial rfl
                  refine calmSteps_cons (fun u wq n hn hn2 hC hk K hK => ?_) ?_
                  · obtain ⟨hP, hD⟩ := hC
                    simp only [calmKnown, List.getElem?_cons_zero, List.getElem?_cons_succ, and_true, Is, Pure, Option.some.injEq, List.getD_cons_zero, List.getD_cons_succ, List.map_cons, List.map_nil] at hk
                    have h3 := hk; clear hk
                    simp only [h3] at hK ⊢
                    have H3 := Lib.hid h3; clear h3
                    go_wp2_with fail
                    refine (R2.out _).mono ?_
                    rintro e w6 ⟨rfl, hbl⟩
                    exact hK _ _ _ rfl ⟨kept_call hbl hP, Blk.keep hbl hD⟩ trivial rfl
                  refine calmSteps_cons (fun u wq n hn hn2 hC hk K hK => ?_) ?_
                  · obtain ⟨hP, hD⟩ := hC
                    simp only [calmKnown, List.getElem?_cons_zero, List.getElem?_cons_succ, and_true, Is, Pure, Option.some.injEq, List.getD_cons_zero, List.getD_cons_succ, List.map_cons, List.map_nil] at hk
                    have h4 := hk; clear hk
                    simp only [h4] at hK ⊢
                    have H4 := Lib.hid h4; clear h4
                    go_simp
                    exact hK _ _ _ rfl ⟨hP, hD⟩ trivial rfl
                  refine calmSteps_cons (fun u wq n hn hn2 hC hk K hK => ?_) ?_
                  · obtain ⟨hP, hD⟩ := hC
                    simp only [calmKnown, List.getElem?_cons_zero, List.getElem?_cons_succ, and_true, Is, Pure, Option.some.injEq, List.getD_cons_zero, List.getD_cons_succ, List.map_cons, List.map_nil] at hk
                    have h5 := hk; clear hk
                    simp only [h5] at hK ⊢
                    have H5 := Lib.hid h5; clear h5
                    go_simp
                    exact hK _ _ _ rfl ⟨hP, hD⟩ trivial rfl
                  refine calmSteps_cons (fun u wq n hn hn2 hC hk K hK => ?_) ?_
                  · obtain ⟨hP, hD⟩ := hC
                    simp only [calmKnown, List.getElem?_cons_zero, List.getElem?_cons_succ, and_true, Is, Pure, Option.some.injEq, List.getD_cons_zero, List.getD_cons_succ, List.map_cons, List.map_nil] at hk
                    have h6 := hk; clear hk
                    simp only [h6] at hK ⊢
                    have H6 := Lib.hid h6; clear h6
                    go_simp
                    exact hK _ _ _ rfl ⟨hP, hD⟩ trivial rfl
                  refine calmSteps_cons (fun u wq n hn hn2 hC hk K hK => ?_) ?_
                  · obtain ⟨hP, hD⟩ := hC
                    simp only [calmKnown, List.getElem?_cons_zero, List.getElem?_cons_succ, and_true, Is, Pure, Option.some.injEq, List.getD_cons_zero, List.getD_cons_succ, List.map_cons, List.map_nil] at hk
                    obtain ⟨h7, h6⟩ := hk
                    simp only [h7, h6] at hK ⊢
                    have H7 := Lib.hid h7; clear h7; have H6 := Lib.hid h6; clear h6
                    go_simp
                    exact hK _ _ _ rfl ⟨hP, hD⟩ trivial rfl
                  refine calmSteps_cons (fun u wq n hn hn2 hC hk K hK => ?_) ?_
                  · obtain ⟨hP, hD⟩ := hC
                    simp only [calmKnown, List.getElem?_cons_zero, List.getElem?_cons_succ, and_true, Is, Pure, Option.some.injEq, List.getD_cons_zero, List.getD_cons_succ, List.map_cons, List.map_nil] at hk
                    obtain ⟨h8, h6⟩ := hk
                    simp only [h8, h6] at hK ⊢
                    have H8 := Lib.hid h8; clear h8; have H6 := Lib.hid h6; clear h6
                    go_simp
                    exact hK _ _ _ rfl ⟨hP, hD⟩ trivial rfl
                  refine calmSteps_cons (fun u wq n hn hn2 hC hk K hK => ?_) ?_
                  · obtain ⟨hP, hD⟩ := hC
                    simp only [calmKnown, List.getElem?_cons_zero, List.getElem?_cons_succ, and_true, Is, Pure, Option.some.injEq, List.getD_cons_zero, List.getD_cons_succ, List.map_cons, List.map_nil] at hk
                    have h9 := hk; clear hk
                    simp only [h9] at hK ⊢
                    have H9 := Lib.hid h9; clear h9
                    go_simp
                    exact hK _ _ _ rfl ⟨hP, hD⟩ trivial rfl
                  refine calmSteps_cons (fun u wq n hn hn2 hC hk K hK => ?_) ?_
                  · obtain ⟨hP, hD⟩ := hC
                    simp only [calmKnown, List.getElem?_cons_zero, List.getElem?_cons_succ, and_true, Is, Pure, Option.some.injEq, List.getD_cons_zero, List.getD_cons_succ, List.map_cons, List.map_nil] at hk
                    have h9 := hk; clear hk
                    simp only [h9] at hK ⊢
                    have H9 := Lib.hid h9; clear h9
                    go_simp
                    exact hK _ _ _ rfl ⟨hP, hD⟩ trivial rfl
                  refine calmSteps_cons (fun u wq n hn hn2 hC hk K hK => ?_) ?_
                  · obtain ⟨hP, hD⟩ := hC
                    simp only [calmKnown, List.getElem?_cons_zero, List.getElem?_cons_succ, and_true, Is, Pure, Option.some.injEq, List.getD_cons_zero, List.getD_cons_succ, List.map_cons, List.map_nil] at hk
                    obtain ⟨h10, h11, h9⟩ := hk
                    simp only [h10, h11, h9] at hK ⊢
                    have H10 := Lib.hid h10; clear h10; have H11 := Lib.hid h11; clear h11; have H9 := Lib.hid h9; clear h9
                    go_simp
                    exact hK _ _ _ rfl ⟨hP, hD⟩ trivial rfl
                  refine calmSteps_cons (fun u wq n hn hn2 hC hk K hK => ?_) ?_
                  · obtain ⟨hP, hD⟩ := hC
                    simp only [calmKnown, List.getElem?_cons_zero, List.getElem?_cons_succ, and_true, Is, Pure, Option.some.injEq, List.getD_cons_zero, List.getD_cons_succ, List.map_cons, List.map_nil] at hk
                    obtain ⟨h12, h9⟩ := hk
                    simp only [h12, h9] at hK ⊢
                    have H12 := Lib.hid h12; clear h12; have H9 := Lib.hid h9; clear h9
                    go_simp
                    exact hK _ _ _ rfl ⟨hP, hD⟩ trivial rfl
                  refine calmSteps_cons (fun u wq n hn hn2 hC hk K hK => ?_) ?_
                  · obtain ⟨hP, hD⟩ := hC
                    simp only [calmKnown, List.getElem?_cons_zero, List.getElem?_cons_succ, and_true, Is, Pure, Option.some.injEq, List.getD_cons_zero, List.getD_cons_succ, List.map_cons, List.map_nil] at hk
                    obtain ⟨h13, h9⟩ := hk
                    simp only [h13, h9] at hK ⊢
                    have H13 := Lib.hid h13; clear h13; have H9 := Lib.hid h9; clear h9
                    go_simp
                    exact hK _ _ _ rfl ⟨hP, hD⟩ trivial rfl
                  refine calmSteps_cons (fun u wq n hn hn2 hC hk K hK => ?_) ?_
                  · obtain ⟨hP, hD⟩ := hC
                    simp only [calmKnown, List.getElem?_cons_zero, List.getElem?_cons_succ, and_true, Is, Pure, Option.some.injEq, List.getD_cons_zero, List.getD_cons_succ, List.map_cons, List.map_nil] at hk
                    have h9 := hk; clear hk
                    simp only [h9] at hK ⊢
                    have H9 := Lib.hid h9; clear h9
                    go_simp
                    exact hK _ _ _ rfl ⟨hP, hD⟩ trivial rfl
                  refine calmSteps_cons (fun u wq n hn hn2 hC hk K hK => ?_) ?_
                  · obtain ⟨hP, hD⟩ := hC
                    simp only [calmKnown, List.getElem?_cons_zero, List.getElem?_cons_succ, and_true, Is, Pure, Option.some.injEq, List.getD_cons_zero, List.getD_cons_succ, List.map_cons, List.map_nil] at hk
                    have h9 := hk; clear hk
                    simp only [h9] at hK ⊢
                    have H9 := Lib.hid h9; clear h9
                    go_simp
                    exact hK _ _ _ rfl ⟨hP, hD⟩ trivial rfl
                  refine calmSteps_cons (fun u wq n hn hn2 hC hk K hK => ?_) ?_
                  · obtain ⟨hP, hD⟩ := hC
                    simp only [calmKnown, List.getElem?_cons_zero, List.getElem?_cons_succ, and_true, Is, Pure, Option.some.injEq, List.getD_cons_zero, List.getD_cons_succ, List.map_cons, List.map_nil] at hk
                    obtain ⟨h16, h9⟩ := hk
                    simp only [h16, h9] at hK ⊢
                    have H16 := Lib.hid h16; clear h16; have H9 := Lib.hid h9; clear h9
                    go_simp
                    exact hK _ _ _ rfl ⟨hP, hD⟩ trivial rfl
                  refine calmSteps_cons (fun u wq n hn hn2 hC hk K hK => ?_) ?_
                  · obtain ⟨hP, hD⟩ := hC
                    simp only [calmKnown, List.getElem?_cons_zero, List.getElem?_cons_succ, and_true, Is, Pure, Option.some.injEq, List.getD_cons_zero, List.getD_cons_succ, List.map_cons, List.map_nil] at hk
                    obtain ⟨h15, h17, h9⟩ := hk
                    simp only [h15, h17, h9] at hK ⊢
                    have H15 := Lib.hid h15; clear h15; have H17 := Lib.hid h17; clear h17; have H9 := Lib.hid h9; clear h9
                    go_simp
                    exact hK _ _ _ rfl ⟨hP, hD⟩ trivial rfl
                  refine calmSteps_cons (fun u wq n hn hn2 hC hk K hK => ?_) ?_
                  · obtain ⟨hP, hD⟩ := hC
                    simp only [calmKnown, List.getElem?_cons_zero, List.getElem?_cons_succ, and_true, Is, Pure, Option.some.injEq, List.getD_cons_zero, List.getD_cons_succ, List.map_cons, List.map_nil] at hk
                    obtain ⟨h18, h9⟩ := hk
                    simp only [h18, h9] at hK ⊢
                    have H18 := Lib.hid h18; clear h18; have H9 := Lib.hid h9; clear h9
                    go_simp
                    exact hK _ _ _ rfl ⟨hP, hD⟩ trivial rfl
                  refine calmSteps_cons (fun u wq n hn hn2 hC hk K hK => ?_) ?_
                  · obtain ⟨hP, hD⟩ := hC
                    simp only [calmKnown, List.getElem?_cons_zero, List.getElem?_cons_succ, and_true, Is, Pure, Option.some.injEq, List.getD_cons_zero, List.getD_cons_succ, List.map_cons, List.map_nil] at hk
                    obtain ⟨h19, h9⟩ := hk
                    simp only [h19, h9] at hK ⊢
                    have H19 := Lib.hid h19; clear h19; have H9 := Lib.hid h9; clear h9
                    go_simp
                    exact hK _ _ _ rfl ⟨hP, hD⟩ trivial rfl
                  refine calmSteps_cons (fun u wq n hn hn2 hC hk K hK => ?_) ?_
                  · obtain ⟨hP, hD⟩ := hC
                    simp only [calmKnown, List.getElem?_cons_zero, List.getElem?_cons_succ, and_true, Is, Pure, Option.some.injEq, List.getD_cons_zero, List.getD_cons_succ, List.map_cons, List.map_nil] at hk
                    obtain ⟨h20, h9⟩ := hk
                    simp only [h20, h9] at hK ⊢
                    have H20 := Lib.hid h20; clear h20; have H9 := Lib.hid h9; clear h9
                    go_simp
                    exact hK _ _ _ rfl ⟨hP, hD⟩ trivial rfl
                  refine calmSteps_cons (fun u wq n hn hn2 hC hk K hK => ?_) ?_
                  · obtain ⟨hP, hD⟩ := hC
                    simp only [calmKnown, List.getElem?_cons_zero, List.getElem?_cons_succ, and_true, Is, Pure, Option.some.injEq, List.getD_cons_zero, List.getD_cons_succ, List.map_cons, List.map_nil] at hk
                    obtain ⟨h14, h21, h9⟩ := hk
                    simp only [h14, h21, h9] at hK ⊢
                    have H14 := Lib.hid h14; clear h14; have H21 := Lib.hid h21; clear h21; have H9 := Lib.hid h9; clear h9
                    go_simp
                    exact hK _ _ _ rfl ⟨hP, hD⟩ trivial rfl
                  refine calmSteps_cons (fun u wq n hn hn2 hC hk K hK => ?_) ?_
                  · obtain ⟨hP, hD⟩ := hC
                    simp only [calmKnown, List.getElem?_cons_zero, List.getElem?_cons_succ, and_true, Is, Pure, Option.some.injEq, List.getD_cons_zero, List.getD_cons_succ, List.map_cons, List.map_nil] at hk
                    obtain ⟨h9, h22, h6⟩ := hk
                    simp only [h9, h22, h6] at hK ⊢
                    have H9 := Lib.hid h9; clear h9; have H22 := Lib.hid h22; clear h22; have H6 := Lib.hid h6; clear h6
                    go_simp
                    exact hK _ _ _ rfl ⟨hP, hD⟩ trivial rfl
                  refine calmSteps_cons (fun u wq n hn hn2 hC hk K hK => ?_) ?_
                  · obtain ⟨hP, hD⟩ := hC
                    simp only [calmKnown, List.getElem?_cons_zero, List.getElem?_cons_succ, and_true, Is, Pure, Option.some.injEq, List.getD_cons_zero, List.getD_cons_succ, List.map_cons, List.map_nil] at hk
                    obtain ⟨h6, h23⟩ := hk
                    simp only [h6, h23] at hK ⊢
                    have H6 := Lib.hid h6; clear h6; have H23 := Lib.hid h23; clear h23
                    go_simp
                    exact hK _ _ _ rfl ⟨hP, hD⟩ trivial rfl
                  exact calmSteps_nil
                · intro u w7 hC hF
                  obtain ⟨hP, hD⟩ := hC
                  simp only [calmFacts, Is, and_true] at hF
                  obtain ⟨f0, f1, f2, f3, f4, f5, f6, f7, f8, f9, f10, f11, f12, f13, f14, f15, f16, f17, f18, f19, f20, f21, f22, f23, f24⟩ := hF
                  simp only [f0, f1, f2, f3, f4, f5, f6, f7, f8, f9, f10, f11, f12, f13, f14, f15, f16, f17, f18, f19, f20, f21, f22, f23, f24]
                  clear f0 f1 f2 f3 f4 f5 f6 f7 f8 f9 f10 f11 f12 f13 f14 f15 f16 f17 f18 f19 f20 f21 f22 f23 f24
                  clear E0 E1
                  go_wp2
                  go_roundg (ul - (j + 1))
                  case measure => omega
                  case rel => exact ⟨j + 1, by omega, by omega, by go_num, rfl, by rw [M1.out]; simp, hP, hD⟩
            · have g0 : decide (0 < (j : Int)) = true := decide_eq_true (by omega)
              obtain ⟨_, f1⟩ := hcs (j - 1) (by omega)
              have hgp := HG.out (j - 1) (by rw [HUL.out]; omega)
              rw [show j - 1 + 1 = j by omega] at hgp
              have hv' := HV.out (us.getD (j - 1) (0, 0)) (by rw [List.getD_eq_getElem?_getD, List.getElem?_eq_getElem (by rw [HUL.out]; omega)]; exact List.getElem_mem _)
              obtain ⟨v1, v2, v3⟩ := vS_true.1 hv'
              clear hcs hv hv'
              generalize (us.getD (j - 1) (0, 0)).2 = y2 at *
              generalize (us.getD (j - 1) (0, 0)).1 = x2 at *
              have wy : IntKind.i64.wrap (y2 + 2) = y2 + 2 := by simp [IntKind.wrap, IntKind.bits, IntKind.signed]; omega
              have wj : IntKind.i64.wrap ((j : Int) - 1) = ((j - 1 : Nat) : Int) := by rw [show ((j : Int) - 1) = ((j - 1 : Nat) : Int) by omega]; simp [IntKind.wrap, IntKind.bits, IntKind.signed]; omega
              have hj1 : j - 1 < ul := by omega
              generalize us.getD j (0, 0) = z at *
              obtain ⟨x, y⟩ := z
              dsimp only at e0 e1 m1 R R2 hgp
              have E0 : ∀ w', Below w3.heap.size w3 w' → w'.cell? ⟨bl, off + j * 2, none⟩ = some (.int .i64 x) := fun w' h => (h.cell (p := ⟨bl, off + j * 2, none⟩) hb).trans e0
              have E1 : ∀ w', Below w3.heap.size w3 w' → w'.cell? ⟨bl, off + j * 2 + 1, none⟩ = some (.int .i64 y) := fun w' h => (h.cell (p := ⟨bl, off + j * 2 + 1, none⟩) hb).trans e1
              clear e0 e1
              generalize hdB x y T = hv at *
              generalize anyIn T (us.take j) = a at *
              have M1 := Lib.hid m1; clear m1
              have gy : decide (x < y2 + 2) = false := decide_eq_false (by omega)
              have E3 : ∀ w', Below w3.heap.size w3 w' → w'.cell? ⟨bl, off + (j - 1) * 2 + 1, none⟩ = some (.int .i64 y2) := fun w' h => (h.cell (p := ⟨bl, off + (j - 1) * 2 + 1, none⟩) hb).trans f1
              clear f1 hgp v1 v2 v3
              cases a with
              | true =>
                go_wp2_with fail
                refine' wp_region_calm (by kernel_rfl) (fun _ _ w' => Below w3.heap.size w3 w' ∧ Blk w' w3.heap.size 23 #[.int .i64 d0, .int .i64 d1]) (fun _ _ => True) [(Is _), (Is _), (Is _), (Is _), (Is _), (Is _), (Is _), (Is _), (Is _), (Is _), (Is _), (Is _), (Is _), (Is _), (Is _), (Is _), (Is _), (Is _), (Is _), (Is _), (Is _), (Is _), (Is _), (Is _), (Is _)] [[], [], [0, 1], [2], [3], [4], [5], [6], [7, 6], [8, 6], [9], [9], [10, 11, 9], [12, 9], [13, 9], [9], [9], [16, 9], [15, 17, 9], [18, 9], [19, 9], [20, 9], [14, 21, 9], [9, 22, 6], [6, 23]] [] [] rfl (by kernel_rfl) (fun u => by (simp only [calmPut, Act.put, List.setIfInBounds_toArray, List.set_cons_zero, List.set_cons_succ, Nat.zero_add, Nat.reduceAdd]; rfl)) ?_ (calmKeep_cons keep_is' (calmKeep_cons keep_is' (calmKeep_cons keep_is' (calmKeep_cons keep_is' (calmKeep_cons keep_is' (calmKeep_cons keep_is' (calmKeep_cons keep_is' (calmKeep_cons keep_is' (calmKeep_cons keep_is' (calmKeep_cons keep_is' (calmKeep_cons keep_is' (calmKeep_cons keep_is' (calmKeep_cons keep_is' (calmKeep_cons keep_is' (calmKeep_cons keep_is' (calmKeep_cons keep_is' (calmKeep_cons keep_is' (calmKeep_cons keep_is' (calmKeep_cons keep_is' (calmKeep_cons keep_is' (calmKeep_cons keep_is' (calmKeep_cons keep_is' (calmKeep_cons keep_is' (calmKeep_cons keep_is' (calmKeep_cons keep_is' (calmKeep_nil)))))))))))))))))))))))))) ?_ ?_
                · intro _
                  exact ⟨hbel.drew, Blk.drew hC⟩
                rotate_left 25
                · skip
                  refine calmSteps_cons (fun u wq n hn hn2 hC hk K hK => ?_) ?_
                  · obtain ⟨hP, hD⟩ := hC
                    clear hk
                    go_simp
                    exact hK _ _ _ rfl ⟨hP, hD⟩ trivial rfl
                  refine calmSteps_cons (fun u wq n hn hn2 hC hk K hK => ?_) ?_
                  · obtain ⟨hP, hD⟩ := hC
                    clear hk
                    go_simp
                    exact hK _ _ _ rfl ⟨hP, hD⟩ trivial rfl
                  refine calmSteps_cons (fun u wq n hn hn2 hC hk K hK => ?_) ?_
                  · obtain ⟨hP, hD⟩ := hC
                    simp only [calmKnown, List.getElem?_cons_zero, List.getElem?_cons_succ, and_true, Is, Pure, Option.some.injEq, List.getD_cons_zero, List.getD_cons_succ, List.map_cons, List.map_nil] at hk
                    obtain ⟨h0, h1⟩ := hk
                    simp only [h0, h1] at hK ⊢
                    have H0 := Lib.hid h0; clear h0; have H1 := Lib.hid h1; clear h1
                    go_simp
                    exact hK _ _ _ rfl ⟨hP, hD⟩ trivial rfl
                  refine calmSteps_cons (fun u wq n hn hn2 hC hk K hK => ?_) ?_
                  · obtain ⟨hP, hD⟩ := hC
                    simp only [calmKnown, List.getElem?_cons_zero, List.getElem?_cons_succ, and_true, Is, Pure, Option.some.injEq, List.getD_cons_zero, List.getD_cons_succ, List.map_cons, List.map_nil] at hk
                    have h2 := hk; clear hk
                    simp only [h2] at hK ⊢
                    have H2 := Lib.hid h2; clear h2
                    have z0 := E0 _ hP
                    have z1 := E1 _ hP
                    go_simp
                    exact hK _ _ _ rfl ⟨hP, hD⟩ trivial rfl
                  refine calmSteps_cons (fun u wq n hn hn2 hC hk K hK => ?_) ?_
                  · obtain ⟨hP, hD⟩ := hC
                    simp only [calmKnown, List.getElem?_cons_zero, List.getElem?_cons_succ, and_true, Is, Pure, Option.some.injEq, List.getD_cons_zero, List.getD_cons_succ, List.map_cons, List.map_nil] at hk
                    have h3 := hk; clear hk
                    simp only [h3] at hK ⊢
                    have H3 := Lib.hid h3; clear h3
                    go_wp2_with fail
                    refine (R2.out _).mono ?_
                    rintro e w6 ⟨rfl, hbl⟩
                    exact hK _ _ _ rfl ⟨kept_call hbl hP, Blk.keep hbl hD⟩ trivial rfl
                  refine calmSteps_cons (fun u wq n hn hn2 hC hk K hK => ?_) ?_
                  · obtain ⟨hP, hD⟩ := hC
                    simp only [calmKnown, List.getElem?_cons_zero, List.getElem?_cons_succ, and_true, Is, Pure, Option.some.injEq, List.getD_cons_zero, List.getD_cons_succ, List.map_cons, List.map_nil] at hk
                    have h4 := hk; clear hk
                    simp only [h4] at hK ⊢
                    have H4 := Lib.hid h4; clear h4
                    go_simp
                    exact hK _ _ _ rfl ⟨hP, hD⟩ trivial rfl
                  refine calmSteps_cons (fun u wq n hn hn2 hC hk K hK => ?_) ?_
                  · obtain ⟨hP, hD⟩ := hC
                    simp only [calmKnown, List.getElem?_cons_zero, List.getElem?_cons_succ, and_true, Is, Pure, Option.some.injEq, List.getD_cons_zero, List.getD_cons_succ, List.map_cons, List.map_nil] at hk
                    have h5 := hk; clear hk
                    simp only [h5] at hK ⊢
                    have H5 := Lib.hid h5; clear h5
                    go_simp
                    exact hK _ _ _ rfl ⟨hP, hD⟩ trivial rfl
                  refine calmSteps_cons (fun u wq n hn hn2 hC hk K hK => ?_) ?_
                  · obtain ⟨hP, hD⟩ := hC
                    simp only [calmKnown, List.getElem?_cons_zero, List.getElem?_cons_succ, and_true, Is, Pure, Option.some.injEq, List.getD_cons_zero, List.getD_cons_succ, List.map_cons, List.map_nil] at hk
                    have h6 := hk; clear hk
                    simp only [h6] at hK ⊢
                    have H6 := Lib.hid h6; clear h6
                    go_simp
                    exact hK _ _ _ rfl ⟨hP, hD⟩ trivial rfl
                  refine calmSteps_cons (fun u wq n hn hn2 hC hk K hK => ?_) ?_
                  · obtain ⟨hP, hD⟩ := hC
                    simp only [calmKnown, List.getElem?_cons_zero, List.getElem?_cons_succ, and_true, Is, Pure, Option.some.injEq, List.getD_cons_zero, List.getD_cons_succ, List.map_cons, List.map_nil] at hk
                    obtain ⟨h7, h6⟩ := hk
                    simp only [h7, h6] at hK ⊢
                    have H7 := Lib.hid h7; clear h7; have H6 := Lib.hid h6; clear h6
                    go_simp
                    exact hK _ _ _ rfl ⟨hP, hD⟩ trivial rfl
                  refine calmSteps_cons (fun u wq n hn hn2 hC hk K hK => ?_) ?_
                  · obtain ⟨hP, hD⟩ := hC
                    simp only [calmKnown, List.getElem?_cons_zero, List.getElem?_cons_succ, and_true, Is, Pure, Option.some.injEq, List.getD_cons_zero, List.getD_cons_succ, List.map_cons, List.map_nil] at hk
                    obtain ⟨h8, h6⟩ := hk
                    simp only [h8, h6] at hK ⊢
                    have H8 := Lib.hid h8; clear h8; have H6 := Lib.hid h6; clear h6
                    go_simp
                    exact hK _ _ _ rfl ⟨hP, hD⟩ trivial rfl
                  refine calmSteps_cons (fun u wq n hn hn2 hC hk K hK => ?_) ?_
                  · obtain ⟨hP, hD⟩ := hC
                    simp only [calmKnown, List.getElem?_cons_zero, List.getElem?_cons_succ, and_true, Is, Pure, Option.some.injEq, List.getD_cons_zero, List.getD_cons_succ, List.map_cons, List.map_nil] at hk
                    have h9 := hk; clear hk
                    simp only [h9] at hK ⊢
                    have H9 := Lib.hid h9; clear h9
                    go_simp
                    exact hK _ _ _ rfl ⟨hP, hD⟩ trivial rfl
                  refine calmSteps_cons (fun u wq n hn hn2 hC hk K hK => ?_) ?_
                  · obtain ⟨hP, hD⟩ := hC
                    simp only [calmKnown, List.getElem?_cons_zero, List.getElem?_cons_succ, and_true, Is, Pure, Option.some.injEq, List.getD_cons_zero, List.getD_cons_succ, List.map_cons, List.map_nil] at hk
                    have h9 := hk; clear hk
                    simp only [h9] at hK ⊢
                    have H9 := Lib.hid h9; clear h9
                    go_simp
                    exact hK _ _ _ rfl ⟨hP, hD⟩ trivial rfl
                  refine calmSteps_cons (fun u wq n hn hn2 hC hk K hK => ?_) ?_
                  · obtain ⟨hP, hD⟩ := hC
                    simp only [calmKnown, List.getElem?_cons_zero, List.getElem?_cons_succ, and_true, Is, Pure, Option.some.injEq, List.getD_cons_zero, List.getD_cons_succ, List.map_cons, List.map_nil] at hk
                    obtain ⟨h10, h11, h9⟩ := hk
                    simp only [h10, h11, h9] at hK ⊢
                    have H10 := Lib.hid h10; clear h10; have H11 := Lib.hid h11; clear h11; have H9 := Lib.hid h9; clear h9
                    go_simp
                    exact hK _ _ _ rfl ⟨hP, hD⟩ trivial rfl
                  refine calmSteps_cons (fun u wq n hn hn2 hC hk K hK => ?_) ?_
                  · obtain ⟨hP, hD⟩ := hC
                    simp only [calmKnown, List.getElem?_cons_zero, List.getElem?_cons_succ, and_true, Is, Pure, Option.some.injEq, List.getD_cons_zero, List.getD_cons_succ, List.map_cons, List.map_nil] at hk
                    obtain ⟨h12, h9⟩ := hk
                    simp only [h12, h9] at hK ⊢
                    have H12 := Lib.hid h12; clear h12; have H9 := Lib.hid h9; clear h9
                    go_simp
                    exact hK _ _ _ rfl ⟨hP, hD⟩ trivial rfl
                  refine calmSteps_cons (fun u wq n hn hn2 hC hk K hK => ?_) ?_
                  · obtain ⟨hP, hD⟩ := hC
                    simp only [calmKnown, List.getElem?_cons_zero, List.getElem?_cons_succ, and_true, Is, Pure, Option.some.injEq, List.getD_cons_zero, List.getD_cons_succ, List.map_cons, List.map_nil] at hk
                    obtain ⟨h13, h9⟩ := hk
                    simp only [h13, h9] at hK ⊢
                    have H13 := Lib.hid h13; clear h13; have H9 := Lib.hid h9; clear h9
                    have z0 := E0 _ hP
                    go_simp
                    exact hK _ _ _ rfl ⟨hP, hD⟩ trivial rfl
                  refine calmSteps_cons (fun u wq n hn hn2 hC hk K hK => ?_) ?_
                  · obtain ⟨hP, hD⟩ := hC
                    simp only [calmKnown, List.getElem?_cons_zero, List.getElem?_cons_succ, and_true, Is, Pure, Option.some.injEq, List.getD_cons_zero, List.getD_cons_succ, List.map_cons, List.map_nil] at hk
                    have h9 := hk; clear hk
                    simp only [h9] at hK ⊢
                    have H9 := Lib.hid h9; clear h9
                    go_simp
                    exact hK _ _ _ rfl ⟨hP, hD⟩ trivial rfl
                  refine calmSteps_cons (fun u wq n hn hn2 hC hk K hK => ?_) ?_
                  · obtain ⟨hP, hD⟩ := hC
                    simp only [calmKnown, List.getElem?_cons_zero, List.getElem?_cons_succ, and_true, Is, Pure, Option.some.injEq, List.getD_cons_zero, List.getD_cons_succ, List.map_cons, List.map_nil] at hk
                    have h9 := hk; clear hk
                    simp only [h9] at hK ⊢
                    have H9 := Lib.hid h9; clear h9
                    go_simp
                    exact hK _ _ _ rfl ⟨hP, hD⟩ trivial rfl
                  refine calmSteps_cons (fun u wq n hn hn2 hC hk K hK => ?_) ?_
                  · obtain ⟨hP, hD⟩ := hC
                    simp only [calmKnown, List.getElem?_cons_zero, List.getElem?_cons_succ, and_true, Is, Pure, Option.some.injEq, List.getD_cons_zero, List.getD_cons_succ, List.map_cons, List.map_nil] at hk
                    obtain ⟨h16, h9⟩ := hk
                    simp only [h16, h9] at hK ⊢
                    have H16 := Lib.hid h16; clear h16; have H9 := Lib.hid h9; clear h9
                    go_simp
                    exact hK _ _ _ rfl ⟨hP, hD⟩ trivial rfl
                  refine calmSteps_cons (fun u wq n hn hn2 hC hk K hK => ?_) ?_
                  · obtain ⟨hP, hD⟩ := hC
                    simp only [calmKnown, List.getElem?_cons_zero, List.getElem?_cons_succ, and_true, Is, Pure, Option.some.injEq, List.getD_cons_zero, List.getD_cons_succ, List.map_cons, List.map_nil] at hk
                    obtain ⟨h15, h17, h9⟩ := hk
                    simp only [h15, h17, h9] at hK ⊢
                    have H15 := Lib.hid h15; clear h15; have H17 := Lib.hid h17; clear h17; have H9 := Lib.hid h9; clear h9
                    go_simp
                    exact hK _ _ _ rfl ⟨hP, hD⟩ trivial rfl
                  refine calmSteps_cons (fun u wq n hn hn2 hC hk K hK => ?_) ?_
                  · obtain ⟨hP, hD⟩ := hC
                    simp only [calmKnown, List.getElem?_cons_zero, List.getElem?_cons_succ, and_true, Is, Pure, Option.some.injEq, List.getD_cons_zero, List.getD_cons_succ, List.map_cons, List.map_nil] at hk
                    obtain ⟨h18, h9⟩ := hk
                    simp only [h18, h9] at hK ⊢
                    have H18 := Lib.hid h18; clear h18; have H9 := Lib.hid h9; clear h9
                    go_simp
                    exact hK _ _ _ rfl ⟨hP, hD⟩ trivial rfl
                  refine calmSteps_cons (fun u wq n hn hn2 hC hk K hK => ?_) ?_
                  · obtain ⟨hP, hD⟩ := hC
                    simp only [calmKnown, List.getElem?_cons_zero, List.getElem?_cons_succ, and_true, Is, Pure, Option.some.injEq, List.getD_cons_zero, List.getD_cons_succ, List.map_cons, List.map_nil] at hk
                    obtain ⟨h19, h9⟩ := hk
                    simp only [h19, h9] at hK ⊢
                    have H19 := Lib.hid h19; clear h19; have H9 := Lib.hid h9; clear h9
                    have z3 := E3 _ hP
                    go_simp
                    exact hK _ _ _ rfl ⟨hP, hD⟩ trivial rfl
                  refine calmSteps_cons (fun u wq n hn hn2 hC hk K hK => ?_) ?_
                  · obtain ⟨hP, hD⟩ := hC
                    simp only [calmKnown, List.getElem?_cons_zero, List.getElem?_cons_succ, and_true, Is, Pure, Option.some.injEq, List.getD_cons_zero, List.getD_cons_succ, List.map_cons, List.map_nil] at hk
                    obtain ⟨h20, h9⟩ := hk
                    simp only [h20, h9] at hK ⊢
                    have H20 := Lib.hid h20; clear h20; have H9 := Lib.hid h9; clear h9
                    go_simp
                    exact hK _ _ _ rfl ⟨hP, hD⟩ trivial rfl
                  refine calmSteps_cons (fun u wq n hn hn2 hC hk K hK => ?_) ?_
                  · obtain ⟨hP, hD⟩ := hC
                    simp only [calmKnown, List.getElem?_cons_zero, List.getElem?_cons_succ, and_true, Is, Pure, Option.some.injEq, List.getD_cons_zero, List.getD_cons_succ, List.map_cons, List.map_nil] at hk
                    obtain ⟨h14, h21, h9⟩ := hk
                    simp only [h14, h21, h9] at hK ⊢
                    have H14 := Lib.hid h14; clear h14; have H21 := Lib.hid h21; clear h21; have H9 := Lib.hid h9; clear h9
                    go_simp
                    exact hK _ _ _ rfl ⟨hP, hD⟩ trivial rfl
                  refine calmSteps_cons (fun u wq n hn hn2 hC hk K hK => ?_) ?_
                  · obtain ⟨hP, hD⟩ := hC
                    simp only [calmKnown, List.getElem?_cons_zero, List.getElem?_cons_succ, and_true, Is, Pure, Option.some.injEq, List.getD_cons_zero, List.getD_cons_succ, List.map_cons, List.map_nil] at hk
                    obtain ⟨h9, h22, h6⟩ := hk
                    simp only [h9, h22, h6] at hK ⊢
                    have H9 := Lib.hid h9; clear h9; have H22 := Lib.hid h22; clear h22; have H6 := Lib.hid h6; clear h6
                    go_simp
                    exact hK _ _ _ rfl ⟨hP, hD⟩ trivial rfl
                  refine calmSteps_cons (fun u wq n hn hn2 hC hk K hK => ?_) ?_
                  · obtain ⟨hP, hD⟩ := hC
                    simp only [calmKnown, List.getElem?_cons_zero, List.getElem?_cons_succ, and_true, Is, Pure, Option.some.injEq, List.getD_cons_zero, List.getD_cons_succ, List.map_cons, List.map_nil] at hk
                    obtain ⟨h6, h23⟩ := hk
                    simp only [h6, h23] at hK ⊢
                    have H6 := Lib.hid h6; clear h6; have H23 := Lib.hid h23; clear h23
                    go_simp
                    exact hK _ _ _ rfl ⟨hP, hD⟩ trivial rfl
                  exact calmSteps_nil
                · intro u w7 hC hF
                  obtain ⟨hP, hD⟩ := hC
                  simp only [calmFacts, Is, and_true] at hF
                  obtain ⟨f0, f1, f2, f3, f4, f5, f6, f7, f8, f9, f10, f11, f12, f13, f14, f15, f16, f17, f18, f19, f20, f21, f22, f23, f24⟩ := hF
                  simp only [f0, f1, f2, f3, f4, f5, f6, f7, f8, f9, f10, f11, f12, f13, f14, f15, f16, f17, f18, f19, f20, f21, f22, f23, f24]
                  clear f0 f1 f2 f3 f4 f5 f6 f7 f8 f9 f10 f11 f12 f13 f14 f15 f16 f17 f18 f19 f20 f21 f22 f23 f24
                  clear E0 E1 E3
                  go_wp2
                  go_roundg (ul - (j + 1))
                  case measure => omega
                  case rel => exact ⟨j + 1, by omega, by omega, by go_num, rfl, by rw [M1.out]; simp, hP, hD⟩
              | false =>
                go_wp2_with fail
                refine (R.out _).mono ?_
                rintro e w5 ⟨rfl, hb5⟩
                have hC5 := Blk.keep hb5 hC
                have hbel5 := kept_call hb5 hbel
                clear hb5 hbel hC
                go_wp2_with fail
                refine' wp_region_calm (by kernel_rfl) (fun _ _ w' => Below w3.heap.size w3 w' ∧ Blk w' w3.heap.size 23 #[.int .i64 d0, .int .i64 d1]) (fun _ _ => True) [(Is _), (Is _), (Is _), (Is _), (Is _), (Is _), (Is _), (Is _), (Is _), (Is _), (Is _), (Is _), (Is _), (Is _), (Is _), (Is _), (Is _), (Is _), (Is _), (Is _), (Is _), (Is _), (Is _), (Is _), (Is _)] [[], [], [0, 1], [2], [3], [4], [5], [6], [7, 6], [8, 6], [9], [9], [10, 11, 9], [12, 9], [13, 9], [9], [9], [16, 9], [15, 17, 9], [18, 9], [19, 9], [20, 9], [14, 21, 9], [9, 22, 6], [6, 23]] [] [] rfl (by kernel_rfl) (fun u => by (simp only [calmPut, Act.put, List.setIfInBounds_toArray, List.set_cons_zero, List.set_cons_succ, Nat.zero_add, Nat.reduceAdd]; rfl)) ?_ (calmKeep_cons keep_is' (calmKeep_cons keep_is' (calmKeep_cons keep_is' (calmKeep_cons keep_is' (calmKeep_cons keep_is' (calmKeep_cons keep_is' (calmKeep_cons keep_is' (calmKeep_cons keep_is' (calmKeep_cons keep_is' (calmKeep_cons keep_is' (calmKeep_cons keep_is' (calmKeep_cons keep_is' (calmKeep_cons keep_is' (calmKeep_cons keep_is' (calmKeep_cons keep_is' (calmKeep_cons keep_is' (calmKeep_cons keep_is' (calmKeep_cons keep_is' (calmKeep_cons keep_is' (calmKeep_cons keep_is' (calmKeep_cons keep_is' (calmKeep_cons keep_is' (calmKeep_cons keep_is' (calmKeep_cons keep_is' (calmKeep_cons keep_is' (calmKeep_nil)))))))))))))))))))))))))) ?_ ?_
                · intro _
                  exact ⟨hbel5.drew, Blk.drew hC5⟩
                rotate_left 25
                · skip
                  refine calmSteps_cons (fun u wq n hn hn2 hC hk K hK => ?_) ?_
                  · obtain ⟨hP, hD⟩ := hC
                    clear hk
                    go_simp
                    exact hK _ _ _ rfl ⟨hP, hD⟩ trivial rfl
                  refine calmSteps_cons (fun u wq n hn hn2 hC hk K hK => ?_) ?_
                  · obtain ⟨hP, hD⟩ := hC
                    clear hk
                    go_simp
                    exact hK _ _ _ rfl ⟨hP, hD⟩ trivial rfl
                  refine calmSteps_cons (fun u wq n hn hn2 hC hk K hK => ?_) ?_
                  · obtain ⟨hP, hD⟩ := hC
                    simp only [calmKnown, List.getElem?_cons_zero, List.getElem?_cons_succ, and_true, Is, Pure, Option.some.injEq, List.getD_cons_zero, List.getD_cons_succ, List.map_cons, List.map_nil] at hk
                    obtain ⟨h0, h1⟩ := hk
                    simp only [h0, h1] at hK ⊢
                    have H0 := Lib.hid h0; clear h0; have H1 := Lib.hid h1; clear h1
                    go_simp
                    exact hK _ _ _ rfl ⟨hP, hD⟩ trivial rfl
                  refine calmSteps_cons (fun u wq n hn hn2 hC hk K hK => ?_) ?_
                  · obtain ⟨hP, hD⟩ := hC
                    simp only [calmKnown, List.getElem?_cons_zero, List.getElem?_cons_succ, and_true, Is, Pure, Option.some.injEq, List.getD_cons_zero, List.getD_cons_succ, List.map_cons, List.map_nil] at hk
                    have h2 := hk; clear hk
                    simp only [h2] at hK ⊢
                    have H2 := Lib.hid h2; clear h2
                    have z0 := E0 _ hP
                    have z1 := E1 _ hP
                    go_simp
                    exact hK _ _ _ rfl ⟨hP, hD⟩ trivial rfl
                  refine calmSteps_cons (fun u wq n hn hn2 hC hk K hK => ?_) ?_
                  · obtain ⟨hP, hD⟩ := hC
                    simp only [calmKnown, List.getElem?_cons_zero, List.getElem?_cons_succ, and_true, Is, Pure, Option.some.injEq, List.getD_cons_zero, List.getD_cons_succ, List.map_cons, List.map_nil] at hk
                    have h3 := hk; clear hk
                    simp only [h3] at hK ⊢
                    have H3 := Lib.hid h3; clear h3
                    go_wp2_with fail
                    refine (R2.out _).mono ?_
                    rintro e w6 ⟨rfl, hbl⟩
                    exact hK _ _ _ rfl ⟨kept_call hbl hP, Blk.keep hbl hD⟩ trivial rfl
                  refine calmSteps_cons (fun u wq n hn hn2 hC hk K hK => ?_) ?_
                  · obtain ⟨hP, hD⟩ := hC
                    simp only [calmKnown, List.getElem?_cons_zero, List.getElem?_cons_succ, and_true, Is, Pure, Option.some.injEq, List.getD_cons_zero, List.getD_cons_succ, List.map_cons, List.map_nil] at hk
                    have h4 := hk; clear hk
                    simp only [h4] at hK ⊢
                    have H4 := Lib.hid h4; clear h4
                    go_simp
                    exact hK _ _ _ rfl ⟨hP, hD⟩ trivial rfl
                  refine calmSteps_cons (fun u wq n hn hn2 hC hk K hK => ?_) ?_
                  · obtain ⟨hP, hD⟩ := hC
                    simp only [calmKnown, List.getElem?_cons_zero, List.getElem?_cons_succ, and_true, Is, Pure, Option.some.injEq, List.getD_cons_zero, List.getD_cons_succ, List.map_cons, List.map_nil] at hk
                    have h5 := hk; clear hk
                    simp only [h5] at hK ⊢
                    have H5 := Lib.hid h5; clear h5
                    go_simp
                    exact hK _ _ _ rfl ⟨hP, hD⟩ trivial rfl
                  refine calmSteps_cons (fun u wq n hn hn2 hC hk K hK => ?_) ?_
                  · obtain ⟨hP, hD⟩ := hC
                    simp only [calmKnown, List.getElem?_cons_zero, List.getElem?_cons_succ, and_true, Is, Pure, Option.some.injEq, List.getD_cons_zero, List.getD_cons_succ, List.map_cons, List.map_nil] at hk
                    have h6 := hk; clear hk
                    simp only [h6] at hK ⊢
                    have H6 := Lib.hid h6; clear h6
                    go_simp
                    exact hK _ _ _ rfl ⟨hP, hD⟩ trivial rfl
                  refine calmSteps_cons (fun u wq n hn hn2 hC hk K hK => ?_) ?_
                  · obtain ⟨hP, hD⟩ := hC
                    simp only [calmKnown, List.getElem?_cons_zero, List.getElem?_cons_succ, and_true, Is, Pure, Option.some.injEq, List.getD_cons_zero, List.getD_cons_succ, List.map_cons, List.map_nil] at hk
                    obtain ⟨h7, h6⟩ := hk
                    simp only [h7, h6] at hK ⊢
                    have H7 := Lib.hid h7; clear h7; have H6 := Lib.hid h6; clear h6
                    go_simp
                    exact hK _ _ _ rfl ⟨hP, hD⟩ trivial rfl
                  refine calmSteps_cons (fun u wq n hn hn2 hC hk K hK => ?_) ?_
                  · obtain ⟨hP, hD⟩ := hC
                    simp only [calmKnown, List.getElem?_cons_zero, List.getElem?_cons_succ, and_true, Is, Pure, Option.some.injEq, List.getD_cons_zero, List.getD_cons_succ, List.map_cons, List.map_nil] at hk
                    obtain ⟨h8, h6⟩ := hk
                    simp only [h8, h6] at hK ⊢
                    have H8 := Lib.hid h8; clear h8; have H6 := Lib.hid h6; clear h6
                    go_simp
                    exact hK _ _ _ rfl ⟨hP, hD⟩ trivial rfl
                  refine calmSteps_cons (fun u wq n hn hn2 hC hk K hK => ?_) ?_
                  · obtain ⟨hP, hD⟩ := hC
                    simp only [calmKnown, List.getElem?_cons_zero, List.getElem?_cons_succ, and_true, Is, Pure, Option.some.injEq, List.getD_cons_zero, List.getD_cons_succ, List.map_cons, List.map_nil] at hk
                    have h9 := hk; clear hk
                    simp only [h9] at hK ⊢
                    have H9 := Lib.hid h9; clear h9
                    go_simp
                    exact hK _ _ _ rfl ⟨hP, hD⟩ trivial rfl
                  refine calmSteps_cons (fun u wq n hn hn2 hC hk K hK => ?_) ?_
                  · obtain ⟨hP, hD⟩ := hC
                    simp only [calmKnown, List.getElem?_cons_zero, List.getElem?_cons_succ, and_true, Is, Pure, Option.some.injEq, List.getD_cons_zero, List.getD_cons_succ, List.map_cons, List.map_nil] at hk
                    have h9 := hk; clear hk
                    simp only [h9] at hK ⊢
                    have H9 := Lib.hid h9; clear h9
                    go_simp
                    exact hK _ _ _ rfl ⟨hP, hD⟩ trivial rfl
                  refine calmSteps_cons (fun u wq n hn hn2 hC hk K hK => ?_) ?_
                  · obtain ⟨hP, hD⟩ := hC
                    simp only [calmKnown, List.getElem?_cons_zero, List.getElem?_cons_succ, and_true, Is, Pure, Option.some.injEq, List.getD_cons_zero, List.getD_cons_succ, List.map_cons, List.map_nil] at hk
                    obtain ⟨h10, h11, h9⟩ := hk
                    simp only [h10, h11, h9] at hK ⊢
                    have H10 := Lib.hid h10; clear h10; have H11 := Lib.hid h11; clear h11; have H9 := Lib.hid h9; clear h9
                    go_simp
                    exact hK _ _ _ rfl ⟨hP, hD⟩ trivial rfl
                  refine calmSteps_cons (fun u wq n hn hn2 hC hk K hK => ?_) ?_
                  · obtain ⟨hP, hD⟩ := hC
                    simp only [calmKnown, List.getElem?_cons_zero, List.getElem?_cons_succ, and_true, Is, Pure, Option.some.injEq, List.getD_cons_zero, List.getD_cons_succ, List.map_cons, List.map_nil] at hk
                    obtain ⟨h12, h9⟩ := hk
                    simp only [h12, h9] at hK ⊢
                    have H12 := Lib.hid h12; clear h12; have H9 := Lib.hid h9; clear h9
                    go_simp
                    exact hK _ _ _ rfl ⟨hP, hD⟩ trivial rfl
                  refine calmSteps_cons (fun u wq n hn hn2 hC hk K hK => ?_) ?_
                  · obtain ⟨hP, hD⟩ := hC
                    simp only [calmKnown, List.getElem?_cons_zero, List.getElem?_cons_succ, and_true, Is, Pure, Option.some.injEq, List.getD_cons_zero, List.getD_cons_succ, List.map_cons, List.map_nil] at hk
                    obtain ⟨h13, h9⟩ := hk
                    simp only [h13, h9] at hK ⊢
                    have H13 := Lib.hid h13; clear h13; have H9 := Lib.hid h9; clear h9
                    have z0 := E0 _ hP
                    go_simp
                    exact hK _ _ _ rfl ⟨hP, hD⟩ trivial rfl
                  refine calmSteps_cons (fun u wq n hn hn2 hC hk K hK => ?_) ?_
                  · obtain ⟨hP, hD⟩ := hC
                    simp only [calmKnown, List.getElem?_cons_zero, List.getElem?_cons_succ, and_true, Is, Pure, Option.some.injEq, List.getD_cons_zero, List.getD_cons_succ, List.map_cons, List.map_nil] at hk
                    have h9 := hk; clear hk
                    simp only [h9] at hK ⊢
                    have H9 := Lib.hid h9; clear h9
                    go_simp
                    exact hK _ _ _ rfl ⟨hP, hD⟩ trivial rfl
                  refine calmSteps_cons (fun u wq n hn hn2 hC hk K hK => ?_) ?_
                  · obtain ⟨hP, hD⟩ := hC
                    simp only [calmKnown, List.getElem?_cons_zero, List.getElem?_cons_succ, and_true, Is, Pure, Option.some.injEq, List.getD_cons_zero, List.getD_cons_succ, List.map_cons, List.map_nil] at hk
                    have h9 := hk; clear hk
                    simp only [h9] at hK ⊢
                    have H9 := Lib.hid h9; clear h9
                    go_simp
                    exact hK _ _ _ rfl ⟨hP, hD⟩ trivial rfl
                  refine calmSteps_cons (fun u wq n hn hn2 hC hk K hK => ?_) ?_
                  · obtain ⟨hP, hD⟩ := hC
                    simp only [calmKnown, List.getElem?_cons_zero, List.getElem?_cons_succ, and_true, Is, Pure, Option.some.injEq, List.getD_cons_zero, List.getD_cons_succ, List.map_cons, List.map_nil] at hk
                    obtain ⟨h16, h9⟩ := hk
                    simp only [h16, h9] at hK ⊢
                    have H16 := Lib.hid h16; clear h16; have H9 := Lib.hid h9; clear h9
                    go_simp
                    exact hK _ _ _ rfl ⟨hP, hD⟩ trivial rfl
                  refine calmSteps_cons (fun u wq n hn hn2 hC hk K hK => ?_) ?_
                  · obtain ⟨hP, hD⟩ := hC
                    simp only [calmKnown, List.getElem?_cons_zero, List.getElem?_cons_succ, and_true, Is, Pure, Option.some.injEq, List.getD_cons_zero, List.getD_cons_succ, List.map_cons, List.map_nil] at hk
                    obtain ⟨h15, h17, h9⟩ := hk
                    simp only [h15, h17, h9] at hK ⊢
                    have H15 := Lib.hid h15; clear h15; have H17 := Lib.hid h17; clear h17; have H9 := Lib.hid h9; clear h9
                    go_simp
                    exact hK _ _ _ rfl ⟨hP, hD⟩ trivial rfl
                  refine calmSteps_cons (fun u wq n hn hn2 hC hk K hK => ?_) ?_
                  · obtain ⟨hP, hD⟩ := hC
                    simp only [calmKnown, List.getElem?_cons_zero, List.getElem?_cons_succ, and_true, Is, Pure, Option.some.injEq, List.getD_cons_zero, List.getD_cons_succ, List.map_cons, List.map_nil] at hk
                    obtain ⟨h18, h9⟩ := hk
                    simp only [h18, h9] at hK ⊢
                    have H18 := Lib.hid h18; clear h18; have H9 := Lib.hid h9; clear h9
                    go_simp
                    exact hK _ _ _ rfl ⟨hP, hD⟩ trivial rfl
                  refine calmSteps_cons (fun u wq n hn hn2 hC hk K hK => ?_) ?_
                  · obtain ⟨hP, hD⟩ := hC
                    simp only [calmKnown, List.getElem?_cons_zero, List.getElem?_cons_succ, and_true, Is, Pure, Option.some.injEq, List.getD_cons_zero, List.getD_cons_succ, List.map_cons, List.map_nil] at hk
                    obtain ⟨h19, h9⟩ := hk
                    simp only [h19, h9] at hK ⊢
                    have H19 := Lib.hid h19; clear h19; have H9 := Lib.hid h9; clear h9
                    have z3 := E3 _ hP
                    go_simp
                    exact hK _ _ _ rfl ⟨hP, hD⟩ trivial rfl
                  refine calmSteps_cons (fun u wq n hn hn2 hC hk K hK => ?_) ?_
                  · obtain ⟨hP, hD⟩ := hC
                    simp only [calmKnown, List.getElem?_cons_zero, List.getElem?_cons_succ, and_true, Is, Pure, Option.some.injEq, List.getD_cons_zero, List.getD_cons_succ, List.map_cons, List.map_nil] at hk
                    obtain ⟨h20, h9⟩ := hk
                    simp only [h20, h9] at hK ⊢
                    have H20 := Lib.hid h20; clear h20; have H9 := Lib.hid h9; clear h9
                    go_simp
                    exact hK _ _ _ rfl ⟨hP, hD⟩ trivial rfl
                  refine calmSteps_cons (fun u wq n hn hn2 hC hk K hK => ?_) ?_
                  · obtain ⟨hP, hD⟩ := hC
                    simp only [calmKnown, List.getElem?_cons_zero, List.getElem?_cons_succ, and_true, Is, Pure, Option.some.injEq, List.getD_cons_zero, List.getD_cons_succ, List.map_cons, List.map_nil] at hk
                    obtain ⟨h14, h21, h9⟩ := hk
                    simp only [h14, h21, h9] at hK ⊢
                    have H14 := Lib.hid h14; clear h14; have H21 := Lib.hid h21; clear h21; have H9 := Lib.hid h9; clear h9
                    go_simp
                    exact hK _ _ _ rfl ⟨hP, hD⟩ trivial rfl
                  refine calmSteps_cons (fun u wq n hn hn2 hC hk K hK => ?_) ?_
                  · obtain ⟨hP, hD⟩ := hC
                    simp only [calmKnown, List.getElem?_cons_zero, List.getElem?_cons_succ, and_true, Is, Pure, Option.some.injEq, List.getD_cons_zero, List.getD_cons_succ, List.map_cons, List.map_nil] at hk
                    obtain ⟨h9, h22, h6⟩ := hk
                    simp only [h9, h22, h6] at hK ⊢
                    have H9 := Lib.hid h9; clear h9; have H22 := Lib.hid h22; clear h22; have H6 := Lib.hid h6; clear h6
                    go_simp
                    exact hK _ _ _ rfl ⟨hP, hD⟩ trivial rfl
                  refine calmSteps_cons (fun u wq n hn hn2 hC hk K hK => ?_) ?_
                  · obtain ⟨hP, hD⟩ := hC
                    simp only [calmKnown, List.getElem?_cons_zero, List.getElem?_cons_succ, and_true, Is, Pure, Option.some.injEq, List.getD_cons_zero, List.getD_cons_succ, List.map_cons, List.map_nil] at hk
                    obtain ⟨h6, h23⟩ := hk
                    simp only [h6, h23] at hK ⊢
                    have H6 := Lib.hid h6; clear h6; have H23 := Lib.hid h23; clear h23
                    go_simp
                    exact hK _ _ _ rfl ⟨hP, hD⟩ trivial rfl
                  exact calmSteps_nil
                · intro u w7 hC hF
                  obtain ⟨hP, hD⟩ := hC
                  simp only [calmFacts, Is, and_true] at hF
                  obtain ⟨f0, f1, f2, f3, f4, f5, f6, f7, f8, f9, f10, f11, f12, f13, f14, f15, f16, f17, f18, f19, f20, f21, f22, f23, f24⟩ := hF
                  simp only [f0, f1, f2, f3, f4, f5, f6, f7, f8, f9, f10, f11, f12, f13, f14, f15, f16, f17, f18, f19, f20, f21, f22, f23, f24]
                  clear f0 f1 f2 f3 f4 f5 f6 f7 f8 f9 f10 f11 f12 f13 f14 f15 f16 f17 f18 f19 f20 f21 f22 f23 f24
                  clear E0 E1 E3
                  go_wp2
                  go_roundg (ul - (j + 1))
                  case measure => omega
                  case rel => exact ⟨j + 1, by omega, by omega, by go_num, rfl, by rw [M1.out]; simp, hP, hD⟩
          · obtain rfl : j = ul := by omega
            have gj : decide ((j : Int) < (j : Int)) = false := decide_eq_false (by omega)
            have e1 : anyIn T (us.take j) = o1 := by rw [List.take_of_length_le (by rw [HUL.out]; omega)]; first | exact HIN.out | exact HIN.out.trans HONE.out
            rw [e1]
            clear e1
            have hf := hC.frozen
            have hc := hC.cell
            have K11 := Lib.hid known11_any
            have hK := kept_call hbel hb03.out
            have HKK := Lib.hid hK; clear hK
            cases ok with
            | true =>
              have R := Lib.hid (rholds_all d0 d1 T)
              have hq2 : hdB d0 d1 T = bb := by rw [CL.out.1 rfl, HLEN.out, ← HALL.out]; simp
              rw [hq2] at R
              clear hq2
              cases o1 <;> cases bb
              all_goals
                go_wp2_with fail
                refine (K11.out _).mono ?_
                rintro e w5 ⟨rfl, hb5⟩
                have hc5 := (Blk.keep hb5 hC).cell
                have hb6 := Lib.hid (kept_call hb5 HKK.out); clear hb5 hbel
                go_wp2_with fail
                refine (R.out _).mono ?_
                rintro e w7 ⟨rfl, hb7⟩
                go_wp2
                go_ret
                exact ⟨rfl, kept_call hb7 hb6.out⟩
            | false =>
              have hq2 : bb = false := by rw [← HALL.out, ← CL.out.2 rfl, HLEN.out]; simp
              subst hq2
              cases o1
              all_goals
                go_wp2_with fail
                refine (K11.out _).mono ?_
                rintro e w5 ⟨rfl, hb5⟩
                have hb6 := Lib.hid (kept_call hb5 HKK.out); clear hb5 hbel
                go_wp2
                go_ret
                exact ⟨rfl, hb6.out⟩
theorem intervalUnion_walk (A : Option Addr) (len cap : Nat) (zs : List Int) {w : World} (hA : IntsAt w A len zs) (a : Int) (_ : IntIn a) (W : World) (h : W = w) :
    Walked 8 #[.slice A len cap, .int .i64 a] W := by
  subst h; exact intervalUnion_core A len cap zs a W hA
end Go.Proofs.Yteodoehhkhacoaa
