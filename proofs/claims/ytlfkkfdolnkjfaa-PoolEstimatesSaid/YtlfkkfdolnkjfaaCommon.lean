/- interval.Common, for every list. -/
import Derived.Deep.DeepCutAuto
import Derived.Deep.LoopGhost
import Derived.Test.YtlfkkfdolnkjfaaCalmP
import Derived.Test.YtlfkkfdolnkjfaaJ27
import Derived.Test.YtlfkkfdolnkjfaaJ26
namespace Go.Proofs.Ytlfkkfdolnkjfaa
open Go.RowKit
set_option linter.unusedSimpArgs false
set_option linter.unusedVariables false

/-- What Common returns. -/
def comO (zs : List (Int × Int)) : (Int × Int) × Bool := comS zs (decide (0 < zs.length))
def comVb (b0 : Bool) (zs : List (Int × Int)) : Value := if (comS zs b0).2 then .tuple #[.agg #[.int .i64 (comS zs b0).1.1, .int .i64 (comS zs b0).1.2], .bool true] else .tuple #[.agg #[.int .i64 0, .int .i64 0], .bool false]
def comV (zs : List (Int × Int)) : Value := comVb (decide (0 < zs.length)) zs
theorem stuck_all {zs : List (Int × Int)} {q : Nat} {b0 : Bool} {c : Int × Int} (h : comS (zs.take q) b0 = (c, false)) : comS zs b0 = (c, false) := by
  have e : comS zs b0 = (zs.drop q).foldl stepC (comS (zs.take q) b0) := by
    unfold comS; rw [← List.foldl_append, List.take_append_drop]
  rw [e, h]
  induction zs.drop q with
  | nil => rfl
  | cons z l ih => rw [List.foldl_cons, show stepC (c, false) z = (c, false) from by simp [stepC]]; exact ih
def ComRel (w : World) (b0 : Bool) (zs : List (Int × Int)) (len : Nat) (G : Nat) (ok i : Value) (wr : World) : Prop :=
  ∃ (q : Nat) (c0 c1 : Int) (b : Bool), q ≤ len ∧ G = len - q ∧ i = .int .i64 q ∧ ok = .bool b ∧ comS (zs.take q) b0 = ((c0, c1), b) ∧ Blk wr w.heap.size 35 #[.int .i64 0, .int .i64 0] ∧ Blk wr (w.heap.size + 1) 35 #[.int .i64 c0, .int .i64 c1] ∧ Below w.heap.size w wr
set_option maxRecDepth 100000 in
set_option maxHeartbeats 4000000 in
theorem common_any (A : Option Addr) (len cap : Nat) (zs : List (Int × Int)) (w : World) (h : SpansAt w A len zs) :
    Calls Try.prog 22 #[.slice A len cap] w (RB w (comV zs)) := by
  have hz := h.1
  have hl := h.2.1
  have H := Lib.hid h; clear h
  obtain ⟨b0, gl, V, hV, he⟩ : ∃ b0, decide (0 < (len : Int)) = b0 ∧ ∃ V, V = comVb b0 zs ∧ comV zs = V := ⟨_, rfl, _, rfl, by unfold comV; rw [hz]; simp⟩
  rw [he]; clear he
  have HV := Lib.hid hV; clear hV
  have HB : w.heap.size ≤ w.heap.size := Nat.le_refl _
  go_enter Try.func22, Try.ntmps22
  go_wp2
  go_loopg [5, 6] len (fun G ok i wr => ComRel w b0 zs len G ok i wr)
  case atStart =>
    refine ⟨0, -1152921504606846976, 1152921504606846976, b0, by omega, by omega, rfl, by first | rfl | (rw [← gl]; simp), rfl, ?_, ?_, ?_⟩
    · exact (by (repeat' (first | ((with_reducible refine' Blk.newE ?_); first | rfl | (simp; done)) | (with_reducible refine' Blk.alloc ?_ _) | (with_reducible refine' Blk.drew ?_) | (with_reducible refine' Blk.drewN ?_ _) | (with_reducible refine' Blk.put ?_ ?_) | (with_reducible refine' Blk.far ?_ ?_ _) | exact rfl)) <;> (first | omega | (simp <;> omega)))
    · exact (by (repeat' (first | ((with_reducible refine' Blk.newE ?_); first | rfl | (simp; done)) | (with_reducible refine' Blk.alloc ?_ _) | (with_reducible refine' Blk.drew ?_) | (with_reducible refine' Blk.drewN ?_ _) | (with_reducible refine' Blk.put ?_ ?_) | (with_reducible refine' Blk.far ?_ ?_ _) | exact rfl)) <;> (first | omega | (simp <;> omega)))
    · exact (by (repeat' (first | (with_reducible exact (Below.refl _ _)) | (with_reducible refine Below.setCell ?_ ?_ _) | (with_reducible refine Below.alloc ?_ ?_ _) | (with_reducible refine Below.drew ?_) | (with_reducible refine below_drewN ?_ _))) <;> (first | omega | (simp <;> omega)))
  case round =>
    obtain ⟨q, c0, c1, b, hq, rfl, rfl, rfl, hcom, hA, hB, hbel⟩ := hrel
    have HC := Lib.hid hcom; clear hcom
    have ws := hbel.size
    by_cases hlt : q < len
    · have gq : decide ((q : Int) < (len : Int)) = true := decide_eq_true (by omega)
      cases b with
      | true =>
        obtain ⟨bl, off, rfl, hb, hcs⟩ := H.out.2.2 (by omega)
        obtain ⟨e0, e1⟩ := hcs q hlt
        clear hcs
        have e0 := (hbel.cell (p := ⟨bl, off + q * 2, none⟩) hb).trans e0
        have e1 := (hbel.cell (p := ⟨bl, off + q * 2 + 1, none⟩) hb).trans e1
        have hm : comS (zs.take (q + 1)) b0 = stepC ((c0, c1), true) (zs.getD q (0, 0)) := by rw [take_snocC (0, 0) zs (by omega), comS_snoc, HC.out]
        generalize zs.getD q (0, 0) = z at *
        obtain ⟨x, y⟩ := z
        dsimp only at e0 e1
        rw [show stepC ((c0, c1), true) (x, y) = ((mtLo c0 c1 x y, mtHi c0 c1 x y), mtB c0 c1 x y) from by simp [stepC]] at hm
        have HM := Lib.hid hm; clear hm
        have hbW : bl < wr.heap.size := Nat.lt_of_lt_of_le hb ws
        have E0 : ∀ w', Below wr.heap.size wr w' → w'.cell? ⟨bl, off + q * 2, none⟩ = some (.int .i64 x) := fun w' h => cell_below h e0
        have E1 : ∀ w', Below wr.heap.size wr w' → w'.cell? ⟨bl, off + q * 2 + 1, none⟩ = some (.int .i64 y) := fun w' h => cell_below h e1
        clear e0 e1
        have R := Lib.hid (imeet_all c0 c1 x y)
        generalize mtLo c0 c1 x y = m0 at *
        generalize mtHi c0 c1 x y = m1 at *
        generalize mtB c0 c1 x y = mb at *
        go_wp2_with fail
        refine' wp_region_calm (by kernel_rfl) (fun n _ w' => Below w.heap.size w w' ∧ (n = 0 → Below wr.heap.size wr w') ∧ Blk w' w.heap.size 35 #[.int .i64 0, .int .i64 0] ∧ (n = 0 → Blk w' (w.heap.size + 1) 35 #[.int .i64 c0, .int .i64 c1]) ∧ (n = 1 → Blk w' (w.heap.size + 1) 35 #[.int .i64 m0, .int .i64 m1])) (fun _ _ => True) [(Is _), (Is _), (Is _), (Is _), (Is _), (Is _), (Is _), (Is _), (Is _), (fun _ _ _ => True), (Is _)] [[], [], [], [1, 2], [3], [0, 4], [5], [6], [6], [7], [8]] [9] [] rfl (by kernel_rfl) (fun u => by (simp only [calmPut, Act.put, List.setIfInBounds_toArray, List.set_cons_zero, List.set_cons_succ, Nat.zero_add, Nat.reduceAdd]; rfl)) ?_ (calmKeep_cons keep_is' (calmKeep_cons keep_is' (calmKeep_cons keep_is' (calmKeep_cons keep_is' (calmKeep_cons keep_is' (calmKeep_cons keep_is' (calmKeep_cons keep_is' (calmKeep_cons keep_is' (calmKeep_cons keep_is' (calmKeep_cons keep_triv (calmKeep_cons keep_is' (calmKeep_nil)))))))))))) ?_ ?_
        · intro _
          exact ⟨hbel.drew, fun _ => (Below.refl _ _).drew, hA, fun _ => hB, fun h => absurd h (by decide)⟩
        rotate_left 10
        · skip
          refine calmSteps_cons (fun u wq n hn hn2 hC hk K hK => ?_) ?_
          · obtain ⟨hP, hQ, hA, hB, hM⟩ := hC
            clear hk
            obtain rfl : n = 0 := Nat.le_zero.1 (hn2 0 9 rfl (by kernel_rfl)); replace hB := hB rfl; replace hQ := hQ rfl
            have z := hB.cell
            go_simp
            exact hK _ _ _ rfl ⟨hP, fun _ => hQ, hA, fun _ => hB, hM⟩ trivial rfl
          refine calmSteps_cons (fun u wq n hn hn2 hC hk K hK => ?_) ?_
          · obtain ⟨hP, hQ, hA, hB, hM⟩ := hC
            clear hk
            go_simp
            exact hK _ _ _ rfl ⟨hP, hQ, hA, hB, hM⟩ trivial rfl
          refine calmSteps_cons (fun u wq n hn hn2 hC hk K hK => ?_) ?_
          · obtain ⟨hP, hQ, hA, hB, hM⟩ := hC
            clear hk
            go_simp
            exact hK _ _ _ rfl ⟨hP, hQ, hA, hB, hM⟩ trivial rfl
          refine calmSteps_cons (fun u wq n hn hn2 hC hk K hK => ?_) ?_
          · obtain ⟨hP, hQ, hA, hB, hM⟩ := hC
            simp only [calmKnown, List.getElem?_cons_zero, List.getElem?_cons_succ, and_true, Is, Pure, Option.some.injEq, List.getD_cons_zero, List.getD_cons_succ, List.map_cons, List.map_nil] at hk
            obtain ⟨h1, h2⟩ := hk
            simp only [h1, h2] at hK ⊢
            have H1 := Lib.hid h1; clear h1; have H2 := Lib.hid h2; clear h2
            go_simp
            exact hK _ _ _ rfl ⟨hP, hQ, hA, hB, hM⟩ trivial rfl
          refine calmSteps_cons (fun u wq n hn hn2 hC hk K hK => ?_) ?_
          · obtain ⟨hP, hQ, hA, hB, hM⟩ := hC
            simp only [calmKnown, List.getElem?_cons_zero, List.getElem?_cons_succ, and_true, Is, Pure, Option.some.injEq, List.getD_cons_zero, List.getD_cons_succ, List.map_cons, List.map_nil] at hk
            have h3 := hk; clear hk
            simp only [h3] at hK ⊢
            have H3 := Lib.hid h3; clear h3
            obtain rfl : n = 0 := Nat.le_zero.1 (hn2 0 9 rfl (by kernel_rfl)); replace hB := hB rfl; replace hQ := hQ rfl
            have z0 := E0 _ (hQ)
            have z1 := E1 _ hQ
            go_simp
            exact hK _ _ _ rfl ⟨hP, fun _ => hQ, hA, fun _ => hB, hM⟩ trivial rfl
          refine calmSteps_cons (fun u wq n hn hn2 hC hk K hK => ?_) ?_
          · obtain ⟨hP, hQ, hA, hB, hM⟩ := hC
            simp only [calmKnown, List.getElem?_cons_zero, List.getElem?_cons_succ, and_true, Is, Pure, Option.some.injEq, List.getD_cons_zero, List.getD_cons_succ, List.map_cons, List.map_nil] at hk
            obtain ⟨h0, h4⟩ := hk
            simp only [h0, h4] at hK ⊢
            have H0 := Lib.hid h0; clear h0; have H4 := Lib.hid h4; clear h4
            obtain rfl : n = 0 := Nat.le_zero.1 (hn2 0 9 rfl (by kernel_rfl)); replace hB := hB rfl; replace hQ := hQ rfl
            go_wp2_with fail
            refine (R.out _).mono ?_
            rintro e w2 ⟨rfl, hbl⟩
            exact hK _ _ _ rfl ⟨kept_call hbl hP, fun _ => kept_call hbl (hQ), Blk.keep hbl hA, fun _ => Blk.keep hbl hB, fun h => absurd h (by decide)⟩ trivial rfl
          refine calmSteps_cons (fun u wq n hn hn2 hC hk K hK => ?_) ?_
          · obtain ⟨hP, hQ, hA, hB, hM⟩ := hC
            simp only [calmKnown, List.getElem?_cons_zero, List.getElem?_cons_succ, and_true, Is, Pure, Option.some.injEq, List.getD_cons_zero, List.getD_cons_succ, List.map_cons, List.map_nil] at hk
            have h5 := hk; clear hk
            simp only [h5] at hK ⊢
            have H5 := Lib.hid h5; clear h5
            go_simp
            exact hK _ _ _ rfl ⟨hP, hQ, hA, hB, hM⟩ trivial rfl
          refine calmSteps_cons (fun u wq n hn hn2 hC hk K hK => ?_) ?_
          · obtain ⟨hP, hQ, hA, hB, hM⟩ := hC
            simp only [calmKnown, List.getElem?_cons_zero, List.getElem?_cons_succ, and_true, Is, Pure, Option.some.injEq, List.getD_cons_zero, List.getD_cons_succ, List.map_cons, List.map_nil] at hk
            have h6 := hk; clear hk
            simp only [h6] at hK ⊢
            have H6 := Lib.hid h6; clear h6
            go_simp
            exact hK _ _ _ rfl ⟨hP, hQ, hA, hB, hM⟩ trivial rfl
          refine calmSteps_cons (fun u wq n hn hn2 hC hk K hK => ?_) ?_
          · obtain ⟨hP, hQ, hA, hB, hM⟩ := hC
            simp only [calmKnown, List.getElem?_cons_zero, List.getElem?_cons_succ, and_true, Is, Pure, Option.some.injEq, List.getD_cons_zero, List.getD_cons_succ, List.map_cons, List.map_nil] at hk
            have h6 := hk; clear hk
            simp only [h6] at hK ⊢
            have H6 := Lib.hid h6; clear h6
            go_simp
            exact hK _ _ _ rfl ⟨hP, hQ, hA, hB, hM⟩ trivial rfl
          refine calmSteps_cons (fun u wq n hn hn2 hC hk K hK => ?_) ?_
          · obtain ⟨hP, hQ, hA, hB, hM⟩ := hC
            simp only [calmKnown, List.getElem?_cons_zero, List.getElem?_cons_succ, and_true, Is, Pure, Option.some.injEq, List.getD_cons_zero, List.getD_cons_succ, List.map_cons, List.map_nil] at hk
            have h7 := hk; clear hk
            simp only [h7] at hK ⊢
            have H7 := Lib.hid h7; clear h7
            obtain rfl := hn 0 rfl
            have hb4 := hB rfl
            have hf := hb4.frozen
            have hc := hb4.cell
            have hg := hb4.lt
            have hb2 := (hb4.set_ 0 (.int .i64 m0)).set_ 1 (.int .i64 m1)
            go_simp
            exact hK _ undef _ rfl ⟨(hP.setCell (by simp) _).setCell (by simp) _, fun h => absurd h (by decide), (hA.far (by simp) _).far (by simp) _, fun h => absurd h (by decide), fun _ => hb2⟩ trivial trivial
          refine calmSteps_cons (fun u wq n hn hn2 hC hk K hK => ?_) ?_
          · obtain ⟨hP, hQ, hA, hB, hM⟩ := hC
            simp only [calmKnown, List.getElem?_cons_zero, List.getElem?_cons_succ, and_true, Is, Pure, Option.some.injEq, List.getD_cons_zero, List.getD_cons_succ, List.map_cons, List.map_nil] at hk
            have h8 := hk; clear hk
            simp only [h8] at hK ⊢
            have H8 := Lib.hid h8; clear h8
            go_simp
            exact hK _ _ _ rfl ⟨hP, hQ, hA, hB, hM⟩ trivial rfl
          exact calmSteps_nil
        · intro u w2 hC hF
          obtain ⟨hP, -, hA2, -, hM⟩ := hC
          simp only [calmFacts, Is, and_true] at hF
          obtain ⟨f0, f1, f2, f3, f4, f5, f6, f7, f8, -, f10⟩ := hF
          simp only [f10]
          clear f0 f1 f2 f3 f4 f5 f6 f7 f8 f10
          clear E0 E1
          go_wp2
          go_roundg (len - (q + 1))
          case measure => omega
          case rel => exact ⟨q + 1, m0, m1, mb, by omega, by omega, by go_num, rfl, HM.out, hA2, hM rfl, hP⟩
      | false =>
        have hco : comS zs b0 = ((c0, c1), false) := stuck_all HC.out
        have HO := Lib.hid hco; clear hco
        have hf := hA.frozen
        have hca := hA.cell
        have hg := hA.lt
        go_wp2

        exact bodyPost_ret (v := .tuple #[.agg #[.int .i64 0, .int .i64 0], .bool false]) (by simp [results, Try.results22, go_sem, *]) rfl ⟨by rw [HV.out]; unfold comVb; rw [HO.out]; rfl, (by (repeat' (first | (with_reducible exact hbel) | (with_reducible refine Below.setCell ?_ ?_ _) | (with_reducible refine Below.alloc ?_ ?_ _) | (with_reducible refine Below.drew ?_) | (with_reducible refine below_drewN ?_ _))) <;> (first | omega | (simp <;> omega)))⟩
    · obtain rfl : q = len := by omega
      have gq : decide ((q : Int) < (q : Int)) = false := decide_eq_false (by omega)
      have ht : zs.take q = zs := List.take_of_length_le (by omega)
      have HO := Lib.hid (show comS zs b0 = ((c0, c1), b) by rw [← HC.out, ht]); clear ht
      have hf := hA.frozen
      have hca := hA.cell
      have hg := hA.lt
      have hc := hB.cell
      cases b with
      | true =>
        go_wp2
        exact bodyPost_ret (v := .tuple #[.agg #[.int .i64 c0, .int .i64 c1], .bool true]) (by simp [results, Try.results22, go_sem, *]) rfl ⟨by rw [HV.out]; unfold comVb; rw [HO.out]; rfl, (by (repeat' (first | (with_reducible exact hbel) | (with_reducible refine Below.setCell ?_ ?_ _) | (with_reducible refine Below.alloc ?_ ?_ _) | (with_reducible refine Below.drew ?_) | (with_reducible refine below_drewN ?_ _))) <;> (first | omega | (simp <;> omega)))⟩
      | false =>
        go_wp2
        exact bodyPost_ret (v := .tuple #[.agg #[.int .i64 0, .int .i64 0], .bool false]) (by simp [results, Try.results22, go_sem, *]) rfl ⟨by rw [HV.out]; unfold comVb; rw [HO.out]; rfl, (by (repeat' (first | (with_reducible exact hbel) | (with_reducible refine Below.setCell ?_ ?_ _) | (with_reducible refine Below.alloc ?_ ?_ _) | (with_reducible refine Below.drew ?_) | (with_reducible refine below_drewN ?_ _))) <;> (first | omega | (simp <;> omega)))⟩
end Go.Proofs.Ytlfkkfdolnkjfaa
