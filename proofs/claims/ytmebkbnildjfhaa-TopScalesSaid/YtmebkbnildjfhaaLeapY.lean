/- leap.UTC and the reference's. -/
import Derived.Test.YtmebkbnildjfhaaLeapX
import Derived.Test.YtmebkbnildjfhaaLeapUV
import Derived.Deep.DeepCutAuto
import Derived.Deep.LoopGhost
namespace Go.Proofs.Ytmebkbnildjfhaa
open Go.RowKit
set_option linter.unusedSimpArgs false
set_option linter.unusedVariables false

def UtR (w : World) (first : Int) (A : Option Addr) (len cap : Nat) (zs : List (Int × Int)) (tai : Int) (G : Nat) (o i : Value) (wr : World) : Prop :=
  ∃ q : Nat, q ≤ len ∧ G = len - q ∧ i = .int .i64 q ∧ o = .int .i64 (utS first zs tai q) ∧ Blk wr w.heap.size 25 #[.int .i64 first, .slice A len cap] ∧ Blk wr (w.heap.size + 1) 52 #[.int .i64 0, .bool false, .int .i64 0] ∧ Below w.heap.size w wr
/-- A value that is known where a test has come out true. -/
def Imp (b : Bool) (c : Value) : List Value → Value → World → Prop := fun _ v _ => b = true → v = c
theorem keep_imp {R : World → World → Prop} {b : Bool} {c : Value} : ∀ d v w w', R w w' → Imp b c d v w → Imp b c d v w' := fun _ _ _ _ _ h => h
theorem utS_in {first : Int} {zs : List (Int × Int)} (hv : LVal first zs) (tai : Int) : ∀ k, k ≤ zs.length → tai - 164 ≤ utS first zs tai k ∧ utS first zs tai k ≤ tai + 64
  | 0, _ => by have := hv.1; have := hv.2.1; unfold utS; omega
  | k + 1, hk => by
    have := hv.at_ (i := k) (by omega)
    have ih := utS_in hv tai k (by omega)
    unfold utS
    split <;> omega
set_option maxRecDepth 100000 in
set_option maxHeartbeats 12000000 in
theorem utc_any (first : Int) (A : Option Addr) (len cap : Nat) (zs : List (Int × Int)) (tt : Int) (hv : LVal first zs) (t0 : 0 ≤ tt) (t1 : tt ≤ 576460752303423488) (w : World) (h : PrAt w A len zs) (hz : ∀ z ∈ zs, IntIn z.1 ∧ IntIn z.2) :
    Calls Try.prog 30 #[.agg #[.int .i64 first, .slice A len cap], .int .i64 tt] w (RB w (utV first zs tt)) := by
  have hzl := h.1
  have f0 := hv.1; have f1 := hv.2.1; have l64 := hv.2.2.1
  have tai0 : 0 ≤ tt / 1048576 ∧ tt / 1048576 ≤ 549755813888 := by omega
  have RV := Lib.hid (fun W (hW : Below w.heap.size w W) => bool_of (lvB_true.2 hv) (lvalid_any first A len cap zs W (h.below hW) hz))
  have RT := Lib.hid (fun W => (show Calls _ _ _ _ (RB W (.int .i64 (tt / 1048576))) from (second_anyK tt (by omega) (by omega) W).mono (fun _ _ hh => ⟨hh.1, hh.2 ▸ Below.refl _ _⟩)))
  have RP := Lib.hid (fun W => (show Calls _ _ _ _ (RB W (.int .i64 (tt % 1048576))) from (part_anyK tt W).mono (fun _ _ hh => ⟨hh.1, hh.2 ▸ Below.refl _ _⟩)))
  have RO := Lib.hid (fun x W (hW : Below w.heap.size w W) => offset_any first A len cap zs x W (h.below hW))
  have RS := Lib.hid (fun x (x0 : -1099511627776 ≤ x) (x1 : x ≤ 1099511627776) W (hW : Below w.heap.size w W) => step_any first A len cap zs hv x x0 x1 W (h.below hW))
  have H := Lib.hid h; have HV := Lib.hid hv
  have u0 := utS_in hv (tt / 1048576) zs.length (Nat.le_refl _)
  have hU : utL first zs (tt / 1048576) = utS first zs (tt / 1048576) len := by unfold utL; rw [hzl]
  have hB : utB first zs (tt / 1048576) = (inS (utL first zs (tt / 1048576) - 1) && decide (stepL first zs (utL first zs (tt / 1048576) - 1) = 1) && decide (tt / 1048576 - offL first zs (utL first zs (tt / 1048576) - 1) = utL first zs (tt / 1048576))) := rfl
  have hN : utN first zs (tt / 1048576) = if utB first zs (tt / 1048576) then utL first zs (tt / 1048576) - 1 else utL first zs (tt / 1048576) := rfl
  have ob := offL_in hv (utL first zs (tt / 1048576) - 1)
  have sb := stepL_range hv (utL first zs (tt / 1048576) - 1)
  have u0 : tt / 1048576 - 164 ≤ utL first zs (tt / 1048576) ∧ utL first zs (tt / 1048576) ≤ tt / 1048576 + 64 := u0
  have VI := fun h => utV_in (first := first) (zs := zs) (t := tt) h
  have VO := fun h => utV_out (first := first) (zs := zs) (t := tt) h
  have RO1 := Lib.hid (RO.out (utL first zs (tt / 1048576) - 1)); have RS1 := Lib.hid (RS.out (utL first zs (tt / 1048576) - 1) (by omega) (by omega)); clear RO RS
  clear h hv hz
  have usc : ∀ q, utS first zs (tt / 1048576) (q + 1) = if (zs.getD q (0, 0)).1 ≤ tt / 1048576 - (zs.getD q (0, 0)).2 then tt / 1048576 - (zs.getD q (0, 0)).2 else utS first zs (tt / 1048576) q := fun q => rfl
  have USC := Lib.hid usc; clear usc
  have us0 : utS first zs (tt / 1048576) 0 = tt / 1048576 - first := rfl
  have HUL := Lib.hid hU; clear hU
  have HVI := Lib.hid VI; have HVO := Lib.hid VO; clear VI VO
  generalize utB first zs (tt / 1048576) = B at *
  generalize utN first zs (tt / 1048576) = N at *
  generalize utV first zs tt = V at *
  generalize tt % 1048576 = part at *
  generalize utL first zs (tt / 1048576) = s at *
  generalize tt / 1048576 = tai at *
  generalize offL first zs (s - 1) = ov at *
  generalize stepL first zs (s - 1) = sv at *
  have HN := Lib.hid hN; have HB := Lib.hid hB; clear hN hB
  have w0 : IntKind.i64.wrap (tai - first) = tai - first := IntWalk.i64_in _ (by omega)
  have US0 := Lib.hid us0; clear us0
  go_enter Try.func30, Try.ntmps30
  go_wp2_with fail
  refine (RV.out _ (by (repeat' (first | (with_reducible exact Below.refl _ _) | (with_reducible refine Below.setCell ?_ ?_ _) | (with_reducible refine Below.alloc ?_ ?_ _) | (with_reducible refine Below.drew ?_) | (with_reducible refine below_drewN ?_ _))) <;> (first | omega | (simp <;> omega)))).mono ?_
  rintro e w1 ⟨rfl, hb1⟩
  have K1 : Below w.heap.size w w1 := kept_call hb1 (by (repeat' (first | (with_reducible exact Below.refl _ _) | (with_reducible refine Below.setCell ?_ ?_ _) | (with_reducible refine Below.alloc ?_ ?_ _) | (with_reducible refine Below.drew ?_) | (with_reducible refine below_drewN ?_ _))) <;> (first | omega | (simp <;> omega)))
  have Z1 : w.heap.size ≤ w1.heap.size := K1.size
  have b1_0 := Blk.keep (g := w.heap.size) hb1 (by (repeat' (first | ((with_reducible refine' Blk.newE ?_); first | rfl | (simp; done)) | (with_reducible refine' Blk.alloc ?_ _) | (with_reducible refine' Blk.drew ?_) | (with_reducible refine' Blk.drewN ?_ _) | (with_reducible refine' Blk.put ?_ ?_) | (with_reducible refine' Blk.far ?_ ?_ _) | exact rfl)) <;> (first | omega | (simp <;> omega)))
  (try simp only [List.setIfInBounds_toArray, List.set_cons_zero, List.set_cons_succ] at b1_0)
  have b1_1 := Blk.keep (g := w.heap.size + 1) hb1 (by (repeat' (first | ((with_reducible refine' Blk.newE ?_); first | rfl | (simp; done)) | (with_reducible refine' Blk.alloc ?_ _) | (with_reducible refine' Blk.drew ?_) | (with_reducible refine' Blk.drewN ?_ _) | (with_reducible refine' Blk.put ?_ ?_) | (with_reducible refine' Blk.far ?_ ?_ _) | exact rfl)) <;> (first | omega | (simp <;> omega)))
  (try simp only [List.setIfInBounds_toArray, List.set_cons_zero, List.set_cons_succ] at b1_1)
  clear hb1
  obtain ⟨c1_0, f1_0, l1_0, e1_0, k1_0⟩ := Blk.facts b1_0
  obtain ⟨c1_1, f1_1, l1_1, e1_1, k1_1⟩ := Blk.facts b1_1
  have o1_0 := l1_0
  have o1_1 := l1_1
  go_upto_region 3 with fail
  refine' wp_region_calm (by kernel_rfl) (fun _ _ w' => Below w.heap.size w w' ∧ Blk w' (w.heap.size) 25 #[.int .i64 first, .slice A len cap] ∧ Blk w' (w.heap.size + 1) 52 #[.int .i64 0, .bool false, .int .i64 0]) (fun _ _ => True) [(Is _), (Is _), (Is _), (Is _), (Is _), (Is _)] [[], [0], [], [2], [1, 3], [4]] [] [] rfl (by kernel_rfl) (fun u => by (simp only [calmPut, Act.put, List.setIfInBounds_toArray, List.set_cons_zero, List.set_cons_succ, Nat.zero_add, Nat.reduceAdd]; rfl)) ?_ (calmKeep_cons keep_is' (calmKeep_cons keep_is' (calmKeep_cons keep_is' (calmKeep_cons keep_is' (calmKeep_cons keep_is' (calmKeep_cons keep_is' (calmKeep_nil))))))) ?_ ?_
  · intro _
    exact ⟨(by (repeat' (first | (with_reducible exact K1) | (with_reducible refine Below.setCell ?_ ?_ _) | (with_reducible refine Below.alloc ?_ ?_ _) | (with_reducible refine Below.drew ?_) | (with_reducible refine below_drewN ?_ _))) <;> (first | omega | (simp <;> omega))), (by (repeat' (first | (with_reducible exact b1_0) | (with_reducible refine' Blk.alloc ?_ _) | (with_reducible refine' Blk.drew ?_) | (with_reducible refine' Blk.drewN ?_ _) | (with_reducible refine' Blk.put ?_ ?_) | (with_reducible refine' Blk.far ?_ ?_ _) | exact b1_0 | exact rfl)) <;> (first | omega | (simp <;> omega))), (by (repeat' (first | (with_reducible exact b1_1) | (with_reducible refine' Blk.alloc ?_ _) | (with_reducible refine' Blk.drew ?_) | (with_reducible refine' Blk.drewN ?_ _) | (with_reducible refine' Blk.put ?_ ?_) | (with_reducible refine' Blk.far ?_ ?_ _) | exact b1_1 | exact rfl)) <;> (first | omega | (simp <;> omega)))⟩
  rotate_left 6
  · skip
    refine calmSteps_cons (fun u wq n hn hn2 hC hk K hK => ?_) ?_
    · obtain ⟨hP, m1_0, m1_1⟩ := hC
      clear hk
      go_simp
      exact hK _ _ _ rfl ⟨hP, m1_0, m1_1⟩ trivial rfl
    refine calmSteps_cons (fun u wq n hn hn2 hC hk K hK => ?_) ?_
    · obtain ⟨hP, m1_0, m1_1⟩ := hC
      simp only [calmKnown, List.getElem?_cons_zero, List.getElem?_cons_succ, and_true, Is, Imp, Pure, Option.some.injEq, List.getD_cons_zero, List.getD_cons_succ, List.map_cons, List.map_nil] at hk
      have h0 := hk; clear hk
      simp only [h0] at hK ⊢
      have H0 := Lib.hid h0; clear h0
      go_wp2_with fail
      first | (with_reducible refine (RT.out _).mono ?_)
      rintro e w2 ⟨rfl, hbl⟩
      exact hK _ _ _ rfl ⟨kept_call hbl hP, Blk.keep hbl m1_0, Blk.keep hbl m1_1⟩ trivial rfl
    refine calmSteps_cons (fun u wq n hn hn2 hC hk K hK => ?_) ?_
    · obtain ⟨hP, m1_0, m1_1⟩ := hC
      clear hk
      go_simp
      exact hK _ _ _ rfl ⟨hP, m1_0, m1_1⟩ trivial rfl
    refine calmSteps_cons (fun u wq n hn hn2 hC hk K hK => ?_) ?_
    · obtain ⟨hP, m1_0, m1_1⟩ := hC
      simp only [calmKnown, List.getElem?_cons_zero, List.getElem?_cons_succ, and_true, Is, Imp, Pure, Option.some.injEq, List.getD_cons_zero, List.getD_cons_succ, List.map_cons, List.map_nil] at hk
      have h2 := hk; clear hk
      simp only [h2] at hK ⊢
      have H2 := Lib.hid h2; clear h2
      have z1_0 := m1_0.cell
      have z1_1 := m1_1.cell
      go_simp
      exact hK _ _ _ rfl ⟨hP, m1_0, m1_1⟩ trivial rfl
    refine calmSteps_cons (fun u wq n hn hn2 hC hk K hK => ?_) ?_
    · obtain ⟨hP, m1_0, m1_1⟩ := hC
      simp only [calmKnown, List.getElem?_cons_zero, List.getElem?_cons_succ, and_true, Is, Imp, Pure, Option.some.injEq, List.getD_cons_zero, List.getD_cons_succ, List.map_cons, List.map_nil] at hk
      obtain ⟨h1, h3⟩ := hk
      simp only [h1, h3] at hK ⊢
      have H1 := Lib.hid h1; clear h1; have H3 := Lib.hid h3; clear h3
      go_simp
      exact hK _ _ _ rfl ⟨hP, m1_0, m1_1⟩ trivial rfl
    refine calmSteps_cons (fun u wq n hn hn2 hC hk K hK => ?_) ?_
    · obtain ⟨hP, m1_0, m1_1⟩ := hC
      simp only [calmKnown, List.getElem?_cons_zero, List.getElem?_cons_succ, and_true, Is, Imp, Pure, Option.some.injEq, List.getD_cons_zero, List.getD_cons_succ, List.map_cons, List.map_nil] at hk
      have h4 := hk; clear hk
      simp only [h4] at hK ⊢
      have H4 := Lib.hid h4; clear h4
      go_simp
      exact hK _ _ _ rfl ⟨hP, m1_0, m1_1⟩ trivial rfl
    exact calmSteps_nil
  · intro u w2 hC hF
    obtain ⟨hP, m1_0, m1_1⟩ := hC
    simp only [calmFacts, Is, and_true] at hF
    obtain ⟨f0, f1, f2, f3, f4, f5⟩ := hF
    simp only [f0, f1, f2, f3, f4, f5]
    clear f0 f1 f2 f3 f4 f5
    have K2 := hP
    have Z2 : w.heap.size ≤ w2.heap.size := K2.size
    clear hP K1
    clear b1_0 c1_0 f1_0 l1_0 e1_0 k1_0; have b1_0 := m1_0; clear m1_0
    obtain ⟨c1_0, f1_0, l1_0, e1_0, k1_0⟩ := Blk.facts b1_0
    clear b1_1 c1_1 f1_1 l1_1 e1_1 k1_1; have b1_1 := m1_1; clear m1_1
    obtain ⟨c1_1, f1_1, l1_1, e1_1, k1_1⟩ := Blk.facts b1_1
    clear w0
    go_wp2_with fail
    go_loopg [6, 23] len (fun G o i wr => UtR w first A len cap zs tai G o i wr)
    case atStart => exact ⟨0, by omega, by omega, rfl, by rw [US0.out], by (repeat' (first | (with_reducible exact b1_0) | (with_reducible refine' Blk.alloc ?_ _) | (with_reducible refine' Blk.drew ?_) | (with_reducible refine' Blk.drewN ?_ _) | (with_reducible refine' Blk.put ?_ ?_) | (with_reducible refine' Blk.far ?_ ?_ _) | exact b1_0 | exact rfl)) <;> (first | omega | (simp <;> omega)), by (repeat' (first | (with_reducible exact b1_1) | (with_reducible refine' Blk.alloc ?_ _) | (with_reducible refine' Blk.drew ?_) | (with_reducible refine' Blk.drewN ?_ _) | (with_reducible refine' Blk.put ?_ ?_) | (with_reducible refine' Blk.far ?_ ?_ _) | exact b1_1 | exact rfl)) <;> (first | omega | (simp <;> omega)), by (repeat' (first | (with_reducible exact K2) | (with_reducible refine Below.setCell ?_ ?_ _) | (with_reducible refine Below.alloc ?_ ?_ _) | (with_reducible refine Below.drew ?_) | (with_reducible refine below_drewN ?_ _))) <;> (first | omega | (simp <;> omega))⟩
    case round =>
      obtain ⟨q, hq, rfl, rfl, rfl, b0, b1, KR⟩ := hrel
      clear K2 b1_0 c1_0 f1_0 l1_0 e1_0 k1_0 b1_1 c1_1 f1_1 l1_1 e1_1 k1_1
      have ZR := KR.size
      obtain ⟨c0, f0, l0, e0, k0⟩ := Blk.facts b0
      obtain ⟨c1, f1, l1, e1, k1⟩ := Blk.facts b1
      by_cases hlt : q < len
      · have gk : decide ((q : Int) < (len : Int)) = true := decide_eq_true (by omega)
        obtain ⟨bl, off, rfl, hb, hcs⟩ := H.out.2.2 (by omega)
        obtain ⟨e0, e1⟩ := hcs q hlt
        clear hcs
        have e0 := (KR.cell (p := ⟨bl, off + q * 2, none⟩) hb).trans e0
        have e1 := (KR.cell (p := ⟨bl, off + q * 2 + 1, none⟩) hb).trans e1
        have hbW : bl < wr.heap.size := by omega
        have nb2 : bl ≠ w.heap.size := by omega
        have nb3 : bl ≠ w.heap.size + 1 := by omega
        have hz := HV.out.at_ (i := q) (by omega)
        have NX := Lib.hid (USC.out q)
        have wq : IntKind.i64.wrap ((q : Int) + 1) = ((q + 1 : Nat) : Int) := by rw [IntWalk.i64_in _ (by omega)]; omega
        generalize zs.getD q (0, 0) = z at *
        obtain ⟨x, y⟩ := z
        dsimp only at *
        generalize utS first zs tai q = uv at *
        have wy : IntKind.i64.wrap (tai - y) = tai - y := IntWalk.i64_in _ (by omega)
        clear hz
        go_upto_region 7 with fail
        refine' wp_region_calm (by kernel_rfl) (fun _ _ w' => Below w.heap.size w w' ∧ Blk w' (w.heap.size) 25 #[.int .i64 first, .slice (some ⟨bl, off, none⟩) len cap] ∧ Blk w' (w.heap.size + 1) 52 #[.int .i64 0, .bool false, .int .i64 0] ∧ Blk w' (wr.heap.size) 67 #[.int .i64 x, .int .i64 y]) (fun _ _ => True) [(Is _), (Is _), (Is _), (Is _), (Is _), (Is _)] [[], [0], [], [2], [1, 3], [4]] [] [] rfl (by kernel_rfl) (fun u => by (simp only [calmPut, Act.put, List.setIfInBounds_toArray, List.set_cons_zero, List.set_cons_succ, Nat.zero_add, Nat.reduceAdd]; rfl)) ?_ (calmKeep_cons keep_is' (calmKeep_cons keep_is' (calmKeep_cons keep_is' (calmKeep_cons keep_is' (calmKeep_cons keep_is' (calmKeep_cons keep_is' (calmKeep_nil))))))) ?_ ?_
        · intro _
          exact ⟨(by (repeat' (first | (with_reducible exact KR) | (with_reducible refine Below.setCell ?_ ?_ _) | (with_reducible refine Below.alloc ?_ ?_ _) | (with_reducible refine Below.drew ?_) | (with_reducible refine below_drewN ?_ _))) <;> (first | omega | (simp <;> omega))), (by (repeat' (first | (with_reducible exact b0) | (with_reducible refine' Blk.alloc ?_ _) | (with_reducible refine' Blk.drew ?_) | (with_reducible refine' Blk.drewN ?_ _) | (with_reducible refine' Blk.put ?_ ?_) | (with_reducible refine' Blk.far ?_ ?_ _) | exact b0 | exact rfl)) <;> (first | omega | (simp <;> omega))), (by (repeat' (first | (with_reducible exact b1) | (with_reducible refine' Blk.alloc ?_ _) | (with_reducible refine' Blk.drew ?_) | (with_reducible refine' Blk.drewN ?_ _) | (with_reducible refine' Blk.put ?_ ?_) | (with_reducible refine' Blk.far ?_ ?_ _) | exact b1 | exact rfl)) <;> (first | omega | (simp <;> omega))), (by (repeat' (first | ((with_reducible refine' Blk.newE ?_); first | rfl | (simp; done)) | (with_reducible refine' Blk.alloc ?_ _) | (with_reducible refine' Blk.drew ?_) | (with_reducible refine' Blk.drewN ?_ _) | (with_reducible refine' Blk.put ?_ ?_) | (with_reducible refine' Blk.far ?_ ?_ _) | exact rfl)) <;> (first | omega | (simp <;> omega)))⟩
        rotate_left 6
        · skip
          refine calmSteps_cons (fun u wq n hn hn2 hC hk K hK => ?_) ?_
          · obtain ⟨hP, m0, m1, mx⟩ := hC
            clear hk
            go_simp
            exact hK _ _ _ rfl ⟨hP, m0, m1, mx⟩ trivial rfl
          refine calmSteps_cons (fun u wq n hn hn2 hC hk K hK => ?_) ?_
          · obtain ⟨hP, m0, m1, mx⟩ := hC
            simp only [calmKnown, List.getElem?_cons_zero, List.getElem?_cons_succ, and_true, Is, Imp, Pure, Option.some.injEq, List.getD_cons_zero, List.getD_cons_succ, List.map_cons, List.map_nil] at hk
            have h0 := hk; clear hk
            simp only [h0] at hK ⊢
            have H0 := Lib.hid h0; clear h0
            go_wp2_with fail
            first | (with_reducible refine (RT.out _).mono ?_)
            rintro e w2 ⟨rfl, hbl⟩
            exact hK _ _ _ rfl ⟨kept_call hbl hP, Blk.keep hbl m0, Blk.keep hbl m1, Blk.keep hbl mx⟩ trivial rfl
          refine calmSteps_cons (fun u wq n hn hn2 hC hk K hK => ?_) ?_
          · obtain ⟨hP, m0, m1, mx⟩ := hC
            clear hk
            go_simp
            exact hK _ _ _ rfl ⟨hP, m0, m1, mx⟩ trivial rfl
          refine calmSteps_cons (fun u wq n hn hn2 hC hk K hK => ?_) ?_
          · obtain ⟨hP, m0, m1, mx⟩ := hC
            simp only [calmKnown, List.getElem?_cons_zero, List.getElem?_cons_succ, and_true, Is, Imp, Pure, Option.some.injEq, List.getD_cons_zero, List.getD_cons_succ, List.map_cons, List.map_nil] at hk
            have h2 := hk; clear hk
            simp only [h2] at hK ⊢
            have H2 := Lib.hid h2; clear h2
            have z0 := m0.cell
            have z1 := m1.cell
            have zx := mx.cell
            go_simp
            exact hK _ _ _ rfl ⟨hP, m0, m1, mx⟩ trivial rfl
          refine calmSteps_cons (fun u wq n hn hn2 hC hk K hK => ?_) ?_
          · obtain ⟨hP, m0, m1, mx⟩ := hC
            simp only [calmKnown, List.getElem?_cons_zero, List.getElem?_cons_succ, and_true, Is, Imp, Pure, Option.some.injEq, List.getD_cons_zero, List.getD_cons_succ, List.map_cons, List.map_nil] at hk
            obtain ⟨h1, h3⟩ := hk
            simp only [h1, h3] at hK ⊢
            have H1 := Lib.hid h1; clear h1; have H3 := Lib.hid h3; clear h3
            go_simp
            exact hK _ _ _ rfl ⟨hP, m0, m1, mx⟩ trivial rfl
          refine calmSteps_cons (fun u wq n hn hn2 hC hk K hK => ?_) ?_
          · obtain ⟨hP, m0, m1, mx⟩ := hC
            simp only [calmKnown, List.getElem?_cons_zero, List.getElem?_cons_succ, and_true, Is, Imp, Pure, Option.some.injEq, List.getD_cons_zero, List.getD_cons_succ, List.map_cons, List.map_nil] at hk
            have h4 := hk; clear hk
            simp only [h4] at hK ⊢
            have H4 := Lib.hid h4; clear h4
            go_simp
            exact hK _ _ _ rfl ⟨hP, m0, m1, mx⟩ trivial rfl
          exact calmSteps_nil
        · intro u w3 hC hF
          obtain ⟨hP, m0, m1, mx⟩ := hC
          simp only [calmFacts, Is, and_true] at hF
          obtain ⟨f0, f1, f2, f3, f4, f5⟩ := hF
          simp only [f0, f1, f2, f3, f4, f5]
          clear f0 f1 f2 f3 f4 f5
          have K3 := hP
          have Z3 : w.heap.size ≤ w3.heap.size := K3.size
          clear hP KR
          clear b0 c0 f0 l0 e0 k0; have b0 := m0; clear m0
          obtain ⟨c0, f0, l0, e0, k0⟩ := Blk.facts b0
          clear b1 c1 f1 l1 e1 k1; have b1 := m1; clear m1
          obtain ⟨c1, f1, l1, e1, k1⟩ := Blk.facts b1
          have bx := mx; clear mx
          obtain ⟨cx, fx, lx, ex, kx⟩ := Blk.facts bx
          by_cases k1 : x ≤ tai - y
          · have g1 : decide (x ≤ tai - y) = true := decide_eq_true k1
            have HNX := Lib.hid (show utS first zs tai (q + 1) = tai - y from by rw [NX.out, if_pos k1])
            go_wp2
            go_roundg (len - (q + 1))
            case measure => omega
            case rel => exact ⟨q + 1, by omega, by omega, by go_num, by rw [HNX.out], by (repeat' (first | (with_reducible exact b0) | (with_reducible refine' Blk.alloc ?_ _) | (with_reducible refine' Blk.drew ?_) | (with_reducible refine' Blk.drewN ?_ _) | (with_reducible refine' Blk.put ?_ ?_) | (with_reducible refine' Blk.far ?_ ?_ _) | exact b0 | exact rfl)) <;> (first | omega | (simp <;> omega)), by (repeat' (first | (with_reducible exact b1) | (with_reducible refine' Blk.alloc ?_ _) | (with_reducible refine' Blk.drew ?_) | (with_reducible refine' Blk.drewN ?_ _) | (with_reducible refine' Blk.put ?_ ?_) | (with_reducible refine' Blk.far ?_ ?_ _) | exact b1 | exact rfl)) <;> (first | omega | (simp <;> omega)), by (repeat' (first | (with_reducible exact K3) | (with_reducible refine Below.setCell ?_ ?_ _) | (with_reducible refine Below.alloc ?_ ?_ _) | (with_reducible refine Below.drew ?_) | (with_reducible refine below_drewN ?_ _))) <;> (first | omega | (simp <;> omega))⟩
          · have g1 : decide (x ≤ tai - y) = false := decide_eq_false k1
            have HNX := Lib.hid (show utS first zs tai (q + 1) = uv from by rw [NX.out, if_neg k1])
            go_wp2
            go_roundg (len - (q + 1))
            case measure => omega
            case rel => exact ⟨q + 1, by omega, by omega, by go_num, by rw [HNX.out], by (repeat' (first | (with_reducible exact b0) | (with_reducible refine' Blk.alloc ?_ _) | (with_reducible refine' Blk.drew ?_) | (with_reducible refine' Blk.drewN ?_ _) | (with_reducible refine' Blk.put ?_ ?_) | (with_reducible refine' Blk.far ?_ ?_ _) | exact b0 | exact rfl)) <;> (first | omega | (simp <;> omega)), by (repeat' (first | (with_reducible exact b1) | (with_reducible refine' Blk.alloc ?_ _) | (with_reducible refine' Blk.drew ?_) | (with_reducible refine' Blk.drewN ?_ _) | (with_reducible refine' Blk.put ?_ ?_) | (with_reducible refine' Blk.far ?_ ?_ _) | exact b1 | exact rfl)) <;> (first | omega | (simp <;> omega)), by (repeat' (first | (with_reducible exact K3) | (with_reducible refine Below.setCell ?_ ?_ _) | (with_reducible refine Below.alloc ?_ ?_ _) | (with_reducible refine Below.drew ?_) | (with_reducible refine below_drewN ?_ _))) <;> (first | omega | (simp <;> omega))⟩
      · obtain rfl : len = q := by omega
        have gk : decide ((len : Int) < (len : Int)) = false := decide_eq_false (by omega)
        rw [← HUL.out]
        clear HUL USC
        have w1 : IntKind.i64.wrap (s - 1) = s - 1 := IntWalk.i64_in _ (by omega)
        have w2 : IntKind.i64.wrap (tai - ov) = tai - ov := IntWalk.i64_in _ (by omega)
        obtain ⟨c1, hc1⟩ : ∃ c, inS (s - 1) = c := ⟨_, rfl⟩
        obtain ⟨c2, hc2⟩ : ∃ c, decide (sv = 1) = c := ⟨_, rfl⟩
        obtain ⟨c3, hc3⟩ : ∃ c, decide (tai - ov = s) = c := ⟨_, rfl⟩
        have hc2b : (sv == 1) = c2 := by rw [← hc2]; rfl
        have hc3b : (tai - ov == s) = c3 := by rw [← hc3]; rfl
        have hBv : B = (c1 && c2 && c3) := by rw [HB.out, hc1, hc2, hc3]
        have RI1 := Lib.hid (fun W => hc1 ▸ leapin_any (s - 1) W)
        have HBV := Lib.hid hBv; have HCC := Lib.hid hc1; clear hBv hc1
        obtain ⟨c4, hc4⟩ : ∃ c, (c1 && c2) = c := ⟨_, rfl⟩
        have H4 := Lib.hid hc4; clear hc4
        go_upto_region 11 with fail
        refine wp_region_calm (by kernel_rfl) (fun _ _ w' => Below w.heap.size w w' ∧ Blk w' w.heap.size 25 #[.int .i64 first, .slice A len cap] ∧ Blk w' (w.heap.size + 1) 52 #[.int .i64 0, .bool false, .int .i64 0]) (fun _ _ => True) [(Is (.int .i64 s)), (Is (.int .i64 (s - 1))), (Is (.bool c1)), (Is (.bool c1)), (Imp c1 (.agg #[.int .i64 first, .slice A len cap])), (Imp c1 (.int .i64 s)), (Imp c1 (.int .i64 (s - 1))), (Imp c1 (.int .i64 sv)), (Imp c1 (.bool c2)), (Is (.bool (c1 && c2))), (Is (.bool c4)), (Imp c4 (.int .i64 tt)), (Imp c4 (.int .i64 tai)), (Imp c4 (.agg #[.int .i64 first, .slice A len cap])), (Imp c4 (.int .i64 s)), (Imp c4 (.int .i64 (s - 1))), (Imp c4 (.int .i64 ov)), (Imp c4 (.int .i64 (tai - ov))), (Imp c4 (.int .i64 s)), (Imp c4 (.bool c3)), (Is (.bool (c4 && c3))), (Is (.bool (c4 && c3)))] [[], [0], [1], [2], [3], [3], [3, 5], [3, 4, 6], [3, 7], [3, 8], [9], [10], [10, 11], [10], [10], [10, 14], [10, 13, 15], [10, 12, 16], [10], [10, 17, 18], [10, 19], [20]] [] [] rfl (by kernel_rfl) (fun u => by (simp only [calmPut, Act.put, List.setIfInBounds_toArray, List.set_cons_zero, List.set_cons_succ, Nat.zero_add, Nat.reduceAdd]; rfl)) ?_ (calmKeep_cons keep_is' (calmKeep_cons keep_is' (calmKeep_cons keep_is' (calmKeep_cons keep_is' (calmKeep_cons keep_imp (calmKeep_cons keep_imp (calmKeep_cons keep_imp (calmKeep_cons keep_imp (calmKeep_cons keep_imp (calmKeep_cons keep_is' (calmKeep_cons keep_is' (calmKeep_cons keep_imp (calmKeep_cons keep_imp (calmKeep_cons keep_imp (calmKeep_cons keep_imp (calmKeep_cons keep_imp (calmKeep_cons keep_imp (calmKeep_cons keep_imp (calmKeep_cons keep_imp (calmKeep_cons keep_imp (calmKeep_cons keep_is' (calmKeep_cons keep_is' (calmKeep_nil))))))))))))))))))))))) ?_ ?_
        · intro _
          exact ⟨KR.drew, b0.drew, b1.drew⟩
        · skip
          refine calmSteps_cons (fun u wq n hn hn2 hC hk K hK => ?_) ?_
          · obtain ⟨hP, m0, m1⟩ := hC
            clear hk
            have z0 := m0.cell
            have HPP := Lib.hid hP; clear hP
            go_simp
            exact hK _ _ _ rfl ⟨HPP.out, m0, m1⟩ trivial rfl
          refine calmSteps_cons (fun u wq n hn hn2 hC hk K hK => ?_) ?_
          · obtain ⟨hP, m0, m1⟩ := hC
            simp only [calmKnown, List.getElem?_cons_zero, List.getElem?_cons_succ, and_true, Is, Imp, Pure, Option.some.injEq, List.getD_cons_zero, List.getD_cons_succ, List.map_cons, List.map_nil] at hk
            have h0 := hk; clear hk
            simp only [h0] at hK ⊢
            have H0 := Lib.hid h0; clear h0
            have z0 := m0.cell
            have HPP := Lib.hid hP; clear hP
            go_simp
            exact hK _ _ _ rfl ⟨HPP.out, m0, m1⟩ trivial rfl
          refine calmSteps_cons (fun u wq n hn hn2 hC hk K hK => ?_) ?_
          · obtain ⟨hP, m0, m1⟩ := hC
            simp only [calmKnown, List.getElem?_cons_zero, List.getElem?_cons_succ, and_true, Is, Imp, Pure, Option.some.injEq, List.getD_cons_zero, List.getD_cons_succ, List.map_cons, List.map_nil] at hk
            have h1 := hk; clear hk
            simp only [h1] at hK ⊢
            have H1 := Lib.hid h1; clear h1
            go_wp2_with fail
            refine (RI1.out _).mono ?_
            rintro e w2 ⟨rfl, hbl⟩
            exact hK _ _ _ rfl ⟨kept_call hbl hP, Blk.keep hbl m0, Blk.keep hbl m1⟩ trivial rfl
          refine calmSteps_cons (fun u wq n hn hn2 hC hk K hK => ?_) ?_
          · obtain ⟨hP, m0, m1⟩ := hC
            simp only [calmKnown, List.getElem?_cons_zero, List.getElem?_cons_succ, and_true, Is, Imp, Pure, Option.some.injEq, List.getD_cons_zero, List.getD_cons_succ, List.map_cons, List.map_nil] at hk
            have h2 := hk; clear hk
            simp only [h2] at hK ⊢
            have H2 := Lib.hid h2; clear h2
            have z0 := m0.cell
            have HPP := Lib.hid hP; clear hP
            go_simp
            exact hK _ _ _ rfl ⟨HPP.out, m0, m1⟩ trivial rfl
          refine calmSteps_cons (fun u wq n hn hn2 hC hk K hK => ?_) ?_
          · obtain ⟨hP, m0, m1⟩ := hC
            simp only [calmKnown, List.getElem?_cons_zero, List.getElem?_cons_succ, and_true, Is, Imp, Pure, Option.some.injEq, List.getD_cons_zero, List.getD_cons_succ, List.map_cons, List.map_nil] at hk
            have h3 := hk; clear hk
            simp only [h3] at hK ⊢
            have H3 := Lib.hid h3; clear h3
            have z0 := m0.cell
            rcases c1 with _ | _
            · have HPP := Lib.hid hP; clear hP
              go_simp
              exact hK _ undef _ rfl ⟨HPP.out, m0, m1⟩ trivial (fun h => by cases h)
            · have HPP := Lib.hid hP; clear hP
              go_simp
              exact hK _ _ _ rfl ⟨HPP.out, m0, m1⟩ trivial (fun _ => rfl)
          refine calmSteps_cons (fun u wq n hn hn2 hC hk K hK => ?_) ?_
          · obtain ⟨hP, m0, m1⟩ := hC
            simp only [calmKnown, List.getElem?_cons_zero, List.getElem?_cons_succ, and_true, Is, Imp, Pure, Option.some.injEq, List.getD_cons_zero, List.getD_cons_succ, List.map_cons, List.map_nil] at hk
            have h3 := hk; clear hk
            simp only [h3] at hK ⊢
            have H3 := Lib.hid h3; clear h3
            have z0 := m0.cell
            rcases c1 with _ | _
            · have HPP := Lib.hid hP; clear hP
              go_simp
              exact hK _ undef _ rfl ⟨HPP.out, m0, m1⟩ trivial (fun h => by cases h)
            · have HPP := Lib.hid hP; clear hP
              go_simp
              exact hK _ _ _ rfl ⟨HPP.out, m0, m1⟩ trivial (fun _ => rfl)
          refine calmSteps_cons (fun u wq n hn hn2 hC hk K hK => ?_) ?_
          · obtain ⟨hP, m0, m1⟩ := hC
            simp only [calmKnown, List.getElem?_cons_zero, List.getElem?_cons_succ, and_true, Is, Imp, Pure, Option.some.injEq, List.getD_cons_zero, List.getD_cons_succ, List.map_cons, List.map_nil] at hk
            obtain ⟨h3, p5⟩ := hk
            simp only [h3] at hK ⊢
            have H3 := Lib.hid h3; clear h3
            have z0 := m0.cell
            rcases c1 with _ | _
            · have HPP := Lib.hid hP; clear hP
              go_simp
              exact hK _ undef _ rfl ⟨HPP.out, m0, m1⟩ trivial (fun h => by cases h)
            · replace p5 := p5 rfl
              simp only [p5] at hK ⊢
              have P5 := Lib.hid p5; clear p5
              have HPP := Lib.hid hP; clear hP
              go_simp
              exact hK _ _ _ rfl ⟨HPP.out, m0, m1⟩ trivial (fun _ => rfl)
          refine calmSteps_cons (fun u wq n hn hn2 hC hk K hK => ?_) ?_
          · obtain ⟨hP, m0, m1⟩ := hC
            simp only [calmKnown, List.getElem?_cons_zero, List.getElem?_cons_succ, and_true, Is, Imp, Pure, Option.some.injEq, List.getD_cons_zero, List.getD_cons_succ, List.map_cons, List.map_nil] at hk
            obtain ⟨h3, p4, p6⟩ := hk
            simp only [h3] at hK ⊢
            have H3 := Lib.hid h3; clear h3
            have z0 := m0.cell
            rcases c1 with _ | _
            · have HPP := Lib.hid hP; clear hP
              go_simp
              exact hK _ undef _ rfl ⟨HPP.out, m0, m1⟩ trivial (fun h => by cases h)
            · replace p4 := p4 rfl
              replace p6 := p6 rfl
              simp only [p4, p6] at hK ⊢
              have P4 := Lib.hid p4; clear p4
              have P6 := Lib.hid p6; clear p6
              go_wp2_with fail
              refine (RS1.out _ hP).mono ?_
              rintro e w2 ⟨rfl, hbl⟩
              exact hK _ _ _ rfl ⟨kept_call hbl hP, Blk.keep hbl m0, Blk.keep hbl m1⟩ trivial (fun _ => rfl)
          refine calmSteps_cons (fun u wq n hn hn2 hC hk K hK => ?_) ?_
          · obtain ⟨hP, m0, m1⟩ := hC
            simp only [calmKnown, List.getElem?_cons_zero, List.getElem?_cons_succ, and_true, Is, Imp, Pure, Option.some.injEq, List.getD_cons_zero, List.getD_cons_succ, List.map_cons, List.map_nil] at hk
            obtain ⟨h3, p7⟩ := hk
            simp only [h3] at hK ⊢
            have H3 := Lib.hid h3; clear h3
            have z0 := m0.cell
            rcases c1 with _ | _
            · have HPP := Lib.hid hP; clear hP
              go_simp
              exact hK _ undef _ rfl ⟨HPP.out, m0, m1⟩ trivial (fun h => by cases h)
            · replace p7 := p7 rfl
              simp only [p7] at hK ⊢
              have P7 := Lib.hid p7; clear p7
              have HPP := Lib.hid hP; clear hP
              go_simp
              exact hK _ _ _ rfl ⟨HPP.out, m0, m1⟩ trivial (fun _ => rfl)
          refine calmSteps_cons (fun u wq n hn hn2 hC hk K hK => ?_) ?_
          · obtain ⟨hP, m0, m1⟩ := hC
            simp only [calmKnown, List.getElem?_cons_zero, List.getElem?_cons_succ, and_true, Is, Imp, Pure, Option.some.injEq, List.getD_cons_zero, List.getD_cons_succ, List.map_cons, List.map_nil] at hk
            obtain ⟨h3, p8⟩ := hk
            simp only [h3] at hK ⊢
            have H3 := Lib.hid h3; clear h3
            have HPP := Lib.hid hP; clear hP
            rcases c1 with _ | _
            · go_simp
              exact hK _ _ _ rfl ⟨HPP.out, m0, m1⟩ trivial rfl
            · replace p8 := p8 rfl
              simp only [p8] at hK ⊢
              go_simp
              exact hK _ _ _ rfl ⟨HPP.out, m0, m1⟩ trivial (by simp [Is])
          refine calmSteps_cons (fun u wq n hn hn2 hC hk K hK => ?_) ?_
          · obtain ⟨hP, m0, m1⟩ := hC
            simp only [calmKnown, List.getElem?_cons_zero, List.getElem?_cons_succ, and_true, Is, Imp, Pure, Option.some.injEq, List.getD_cons_zero, List.getD_cons_succ, List.map_cons, List.map_nil] at hk
            have h9 := hk; clear hk
            simp only [h9] at hK ⊢
            have H9 := Lib.hid h9; clear h9
            have HPP := Lib.hid hP; clear hP
            simp only [H4.out] at hK ⊢
            go_simp
            exact hK _ _ _ rfl ⟨HPP.out, m0, m1⟩ trivial rfl
          refine calmSteps_cons (fun u wq n hn hn2 hC hk K hK => ?_) ?_
          · obtain ⟨hP, m0, m1⟩ := hC
            simp only [calmKnown, List.getElem?_cons_zero, List.getElem?_cons_succ, and_true, Is, Imp, Pure, Option.some.injEq, List.getD_cons_zero, List.getD_cons_succ, List.map_cons, List.map_nil] at hk
            have h10 := hk; clear hk
            simp only [h10] at hK ⊢
            have H10 := Lib.hid h10; clear h10
            have z0 := m0.cell
            rcases c4 with _ | _
            · have HPP := Lib.hid hP; clear hP
              go_simp
              exact hK _ undef _ rfl ⟨HPP.out, m0, m1⟩ trivial (fun h => by cases h)
            · have HPP := Lib.hid hP; clear hP
              go_simp
              exact hK _ _ _ rfl ⟨HPP.out, m0, m1⟩ trivial (fun _ => rfl)
          refine calmSteps_cons (fun u wq n hn hn2 hC hk K hK => ?_) ?_
          · obtain ⟨hP, m0, m1⟩ := hC
            simp only [calmKnown, List.getElem?_cons_zero, List.getElem?_cons_succ, and_true, Is, Imp, Pure, Option.some.injEq, List.getD_cons_zero, List.getD_cons_succ, List.map_cons, List.map_nil] at hk
            obtain ⟨h10, p11⟩ := hk
            simp only [h10] at hK ⊢
            have H10 := Lib.hid h10; clear h10
            have z0 := m0.cell
            rcases c4 with _ | _
            · have HPP := Lib.hid hP; clear hP
              go_simp
              exact hK _ undef _ rfl ⟨HPP.out, m0, m1⟩ trivial (fun h => by cases h)
            · replace p11 := p11 rfl
              simp only [p11] at hK ⊢
              have P11 := Lib.hid p11; clear p11
              go_wp2_with fail
              refine (RT.out _).mono ?_
              rintro e w2 ⟨rfl, hbl⟩
              exact hK _ _ _ rfl ⟨kept_call hbl hP, Blk.keep hbl m0, Blk.keep hbl m1⟩ trivial (fun _ => rfl)
          refine calmSteps_cons (fun u wq n hn hn2 hC hk K hK => ?_) ?_
          · obtain ⟨hP, m0, m1⟩ := hC
            simp only [calmKnown, List.getElem?_cons_zero, List.getElem?_cons_succ, and_true, Is, Imp, Pure, Option.some.injEq, List.getD_cons_zero, List.getD_cons_succ, List.map_cons, List.map_nil] at hk
            have h10 := hk; clear hk
            simp only [h10] at hK ⊢
            have H10 := Lib.hid h10; clear h10
            have z0 := m0.cell
            rcases c4 with _ | _
            · have HPP := Lib.hid hP; clear hP
              go_simp
              exact hK _ undef _ rfl ⟨HPP.out, m0, m1⟩ trivial (fun h => by cases h)
            · have HPP := Lib.hid hP; clear hP
              go_simp
              exact hK _ _ _ rfl ⟨HPP.out, m0, m1⟩ trivial (fun _ => rfl)
          refine calmSteps_cons (fun u wq n hn hn2 hC hk K hK => ?_) ?_
          · obtain ⟨hP, m0, m1⟩ := hC
            simp only [calmKnown, List.getElem?_cons_zero, List.getElem?_cons_succ, and_true, Is, Imp, Pure, Option.some.injEq, List.getD_cons_zero, List.getD_cons_succ, List.map_cons, List.map_nil] at hk
            have h10 := hk; clear hk
            simp only [h10] at hK ⊢
            have H10 := Lib.hid h10; clear h10
            have z0 := m0.cell
            rcases c4 with _ | _
            · have HPP := Lib.hid hP; clear hP
              go_simp
              exact hK _ undef _ rfl ⟨HPP.out, m0, m1⟩ trivial (fun h => by cases h)
            · have HPP := Lib.hid hP; clear hP
              go_simp
              exact hK _ _ _ rfl ⟨HPP.out, m0, m1⟩ trivial (fun _ => rfl)
          refine calmSteps_cons (fun u wq n hn hn2 hC hk K hK => ?_) ?_
          · obtain ⟨hP, m0, m1⟩ := hC
            simp only [calmKnown, List.getElem?_cons_zero, List.getElem?_cons_succ, and_true, Is, Imp, Pure, Option.some.injEq, List.getD_cons_zero, List.getD_cons_succ, List.map_cons, List.map_nil] at hk
            obtain ⟨h10, p14⟩ := hk
            simp only [h10] at hK ⊢
            have H10 := Lib.hid h10; clear h10
            have z0 := m0.cell
            rcases c4 with _ | _
            · have HPP := Lib.hid hP; clear hP
              go_simp
              exact hK _ undef _ rfl ⟨HPP.out, m0, m1⟩ trivial (fun h => by cases h)
            · replace p14 := p14 rfl
              simp only [p14] at hK ⊢
              have P14 := Lib.hid p14; clear p14
              have HPP := Lib.hid hP; clear hP
              go_simp
              exact hK _ _ _ rfl ⟨HPP.out, m0, m1⟩ trivial (fun _ => rfl)
          refine calmSteps_cons (fun u wq n hn hn2 hC hk K hK => ?_) ?_
          · obtain ⟨hP, m0, m1⟩ := hC
            simp only [calmKnown, List.getElem?_cons_zero, List.getElem?_cons_succ, and_true, Is, Imp, Pure, Option.some.injEq, List.getD_cons_zero, List.getD_cons_succ, List.map_cons, List.map_nil] at hk
            obtain ⟨h10, p13, p15⟩ := hk
            simp only [h10] at hK ⊢
            have H10 := Lib.hid h10; clear h10
            have z0 := m0.cell
            rcases c4 with _ | _
            · have HPP := Lib.hid hP; clear hP
              go_simp
              exact hK _ undef _ rfl ⟨HPP.out, m0, m1⟩ trivial (fun h => by cases h)
            · replace p13 := p13 rfl
              replace p15 := p15 rfl
              simp only [p13, p15] at hK ⊢
              have P13 := Lib.hid p13; clear p13
              have P15 := Lib.hid p15; clear p15
              go_wp2_with fail
              refine (RO1.out _ hP).mono ?_
              rintro e w2 ⟨rfl, hbl⟩
              exact hK _ _ _ rfl ⟨kept_call hbl hP, Blk.keep hbl m0, Blk.keep hbl m1⟩ trivial (fun _ => rfl)
          refine calmSteps_cons (fun u wq n hn hn2 hC hk K hK => ?_) ?_
          · obtain ⟨hP, m0, m1⟩ := hC
            simp only [calmKnown, List.getElem?_cons_zero, List.getElem?_cons_succ, and_true, Is, Imp, Pure, Option.some.injEq, List.getD_cons_zero, List.getD_cons_succ, List.map_cons, List.map_nil] at hk
            obtain ⟨h10, p12, p16⟩ := hk
            simp only [h10] at hK ⊢
            have H10 := Lib.hid h10; clear h10
            have z0 := m0.cell
            rcases c4 with _ | _
            · have HPP := Lib.hid hP; clear hP
              go_simp
              exact hK _ undef _ rfl ⟨HPP.out, m0, m1⟩ trivial (fun h => by cases h)
            · replace p12 := p12 rfl
              replace p16 := p16 rfl
              simp only [p12, p16] at hK ⊢
              have P12 := Lib.hid p12; clear p12
              have P16 := Lib.hid p16; clear p16
              have HPP := Lib.hid hP; clear hP
              go_simp
              exact hK _ _ _ rfl ⟨HPP.out, m0, m1⟩ trivial (fun _ => rfl)
          refine calmSteps_cons (fun u wq n hn hn2 hC hk K hK => ?_) ?_
          · obtain ⟨hP, m0, m1⟩ := hC
            simp only [calmKnown, List.getElem?_cons_zero, List.getElem?_cons_succ, and_true, Is, Imp, Pure, Option.some.injEq, List.getD_cons_zero, List.getD_cons_succ, List.map_cons, List.map_nil] at hk
            have h10 := hk; clear hk
            simp only [h10] at hK ⊢
            have H10 := Lib.hid h10; clear h10
            have z0 := m0.cell
            rcases c4 with _ | _
            · have HPP := Lib.hid hP; clear hP
              go_simp
              exact hK _ undef _ rfl ⟨HPP.out, m0, m1⟩ trivial (fun h => by cases h)
            · have HPP := Lib.hid hP; clear hP
              go_simp
              exact hK _ _ _ rfl ⟨HPP.out, m0, m1⟩ trivial (fun _ => rfl)
          refine calmSteps_cons (fun u wq n hn hn2 hC hk K hK => ?_) ?_
          · obtain ⟨hP, m0, m1⟩ := hC
            simp only [calmKnown, List.getElem?_cons_zero, List.getElem?_cons_succ, and_true, Is, Imp, Pure, Option.some.injEq, List.getD_cons_zero, List.getD_cons_succ, List.map_cons, List.map_nil] at hk
            obtain ⟨h10, p17, p18⟩ := hk
            simp only [h10] at hK ⊢
            have H10 := Lib.hid h10; clear h10
            have z0 := m0.cell
            rcases c4 with _ | _
            · have HPP := Lib.hid hP; clear hP
              go_simp
              exact hK _ undef _ rfl ⟨HPP.out, m0, m1⟩ trivial (fun h => by cases h)
            · replace p17 := p17 rfl
              replace p18 := p18 rfl
              simp only [p17, p18] at hK ⊢
              have P17 := Lib.hid p17; clear p17
              have P18 := Lib.hid p18; clear p18
              have HPP := Lib.hid hP; clear hP
              go_simp
              exact hK _ _ _ rfl ⟨HPP.out, m0, m1⟩ trivial (fun _ => rfl)
          refine calmSteps_cons (fun u wq n hn hn2 hC hk K hK => ?_) ?_
          · obtain ⟨hP, m0, m1⟩ := hC
            simp only [calmKnown, List.getElem?_cons_zero, List.getElem?_cons_succ, and_true, Is, Imp, Pure, Option.some.injEq, List.getD_cons_zero, List.getD_cons_succ, List.map_cons, List.map_nil] at hk
            obtain ⟨h10, p19⟩ := hk
            simp only [h10] at hK ⊢
            have H10 := Lib.hid h10; clear h10
            have HPP := Lib.hid hP; clear hP
            rcases c4 with _ | _
            · go_simp
              exact hK _ _ _ rfl ⟨HPP.out, m0, m1⟩ trivial rfl
            · replace p19 := p19 rfl
              simp only [p19] at hK ⊢
              go_simp
              exact hK _ _ _ rfl ⟨HPP.out, m0, m1⟩ trivial (by simp [Is])
          refine calmSteps_cons (fun u wq n hn hn2 hC hk K hK => ?_) ?_
          · obtain ⟨hP, m0, m1⟩ := hC
            simp only [calmKnown, List.getElem?_cons_zero, List.getElem?_cons_succ, and_true, Is, Imp, Pure, Option.some.injEq, List.getD_cons_zero, List.getD_cons_succ, List.map_cons, List.map_nil] at hk
            have h20 := hk; clear hk
            simp only [h20] at hK ⊢
            have H20 := Lib.hid h20; clear h20
            have z0 := m0.cell
            have HPP := Lib.hid hP; clear hP
            go_simp
            exact hK _ _ _ rfl ⟨HPP.out, m0, m1⟩ trivial rfl
          exact calmSteps_nil
        · intro u w7 hC hF
          obtain ⟨hP, m0, m1⟩ := hC
          simp only [calmFacts, Is, Imp, and_true, List.map_cons, List.map_nil, Nat.zero_add, Nat.reduceAdd] at hF
          have h21 := hF.2.2.2.2.2.2.2.2.2.2.2.2.2.2.2.2.2.2.2.2.2
          have hfin : (c4 && c3) = B := by rw [← H4.out, HBV.out]
          rw [hfin] at h21
          simp only [h21]
          clear hF h21 hfin KR b0 c0 f0 l0 e0 k0 b1
          have b0 := m0; have b1 := m1; clear m0 m1
          obtain ⟨d0, g0, q0, r0, s0⟩ := Blk.facts b0
          obtain ⟨d1, g1, q1, r1, s1⟩ := Blk.facts b1
          have hN2 := HN.out
          clear HB HBV HCC H4
          cases B with
          | true =>
            have hN3 : s - 1 = N := hN2.symm
            clear hN2
            subst hN3
            have RIN := Lib.hid (fun W => leapin_any (s - 1) W)
            by_cases hin : inS (s - 1) = true
            · have hV := HVI.out hin
              rw [hin] at RIN
              have HVV := Lib.hid hV; clear hV hin HVI HVO HN
              go_wp2_with fail
              refine (RIN.out _).mono ?_
              rintro e w8 ⟨rfl, hb8⟩
              have b0' := Blk.keep hb8 (by (repeat' (first | (with_reducible refine' Blk.alloc ?_ _) | (with_reducible refine' Blk.drew ?_) | (with_reducible refine' Blk.drewN ?_ _) | (with_reducible refine' Blk.put ?_ ?_) | (with_reducible refine' Blk.far ?_ ?_ _) | exact b0 | exact rfl)) <;> (first | omega | (simp <;> omega)))
              have b1' := Blk.keep hb8 (by (repeat' (first | (with_reducible refine' Blk.alloc ?_ _) | (with_reducible refine' Blk.drew ?_) | (with_reducible refine' Blk.drewN ?_ _) | (with_reducible refine' Blk.put ?_ ?_) | (with_reducible refine' Blk.far ?_ ?_ _) | exact b1 | exact rfl)) <;> (first | omega | (simp <;> omega)))
              have K8 : Below w.heap.size w w8 := kept_call hb8 (by (repeat' (first | (with_reducible exact hP) | (with_reducible refine Below.setCell ?_ ?_ _) | (with_reducible refine Below.alloc ?_ ?_ _) | (with_reducible refine Below.drew ?_) | (with_reducible refine below_drewN ?_ _))) <;> (first | omega | (simp <;> omega)))
              clear b0 b1 d0 d1 g0 g1 q0 q1 r0 r1 s0 s1 hb8 hP; have b0 := b0'; have b1 := b1'; clear b0' b1'
              obtain ⟨d0, g0, q0, r0, s0⟩ := Blk.facts b0
              obtain ⟨d1, g1, q1, r1, s1⟩ := Blk.facts b1
              go_wp2_with fail
              refine (RP.out _).mono ?_
              rintro e w9 ⟨rfl, hb9⟩
              have b0' := Blk.keep hb9 (by (repeat' (first | (with_reducible refine' Blk.alloc ?_ _) | (with_reducible refine' Blk.drew ?_) | (with_reducible refine' Blk.drewN ?_ _) | (with_reducible refine' Blk.put ?_ ?_) | (with_reducible refine' Blk.far ?_ ?_ _) | exact b0 | exact rfl)) <;> (first | omega | (simp <;> omega)))
              have b1' := Blk.keep hb9 (by (repeat' (first | (with_reducible refine' Blk.alloc ?_ _) | (with_reducible refine' Blk.drew ?_) | (with_reducible refine' Blk.drewN ?_ _) | (with_reducible refine' Blk.put ?_ ?_) | (with_reducible refine' Blk.far ?_ ?_ _) | exact b1 | exact rfl)) <;> (first | omega | (simp <;> omega)))
              have K9 : Below w.heap.size w w9 := kept_call hb9 (by (repeat' (first | (with_reducible exact K8) | (with_reducible refine Below.setCell ?_ ?_ _) | (with_reducible refine Below.alloc ?_ ?_ _) | (with_reducible refine Below.drew ?_) | (with_reducible refine below_drewN ?_ _))) <;> (first | omega | (simp <;> omega)))
              clear b0 b1 d0 d1 g0 g1 q0 q1 r0 r1 s0 s1 hb9 K8; have b0 := b0'; have b1 := b1'; clear b0' b1'
              obtain ⟨d0, g0, q0, r0, s0⟩ := Blk.facts b0
              obtain ⟨d1, g1, q1, r1, s1⟩ := Blk.facts b1
              go_wp2
              exact bodyPost_ret (v := .tuple #[.agg #[.int .i64 (s - 1), .bool true, .int .i64 part], .int .i64 0]) (by simp [results, Try.results30, go_sem, *]) rfl ⟨by rw [HVV.out], (by (repeat' (first | (with_reducible exact K9) | (with_reducible refine Below.setCell ?_ ?_ _) | (with_reducible refine Below.alloc ?_ ?_ _) | (with_reducible refine Below.drew ?_) | (with_reducible refine below_drewN ?_ _))) <;> (first | omega | (simp <;> omega)))⟩
            · have hV := HVO.out hin
              have hin : inS (s - 1) = false := by simpa using hin
              rw [hin] at RIN
              have HVV := Lib.hid hV; clear hV hin HVI HVO HN
              go_wp2_with fail
              refine (RIN.out _).mono ?_
              rintro e w8 ⟨rfl, hb8⟩
              have b0' := Blk.keep hb8 (by (repeat' (first | (with_reducible refine' Blk.alloc ?_ _) | (with_reducible refine' Blk.drew ?_) | (with_reducible refine' Blk.drewN ?_ _) | (with_reducible refine' Blk.put ?_ ?_) | (with_reducible refine' Blk.far ?_ ?_ _) | exact b0 | exact rfl)) <;> (first | omega | (simp <;> omega)))
              have b1' := Blk.keep hb8 (by (repeat' (first | (with_reducible refine' Blk.alloc ?_ _) | (with_reducible refine' Blk.drew ?_) | (with_reducible refine' Blk.drewN ?_ _) | (with_reducible refine' Blk.put ?_ ?_) | (with_reducible refine' Blk.far ?_ ?_ _) | exact b1 | exact rfl)) <;> (first | omega | (simp <;> omega)))
              have K8 : Below w.heap.size w w8 := kept_call hb8 (by (repeat' (first | (with_reducible exact hP) | (with_reducible refine Below.setCell ?_ ?_ _) | (with_reducible refine Below.alloc ?_ ?_ _) | (with_reducible refine Below.drew ?_) | (with_reducible refine below_drewN ?_ _))) <;> (first | omega | (simp <;> omega)))
              clear b0 b1 d0 d1 g0 g1 q0 q1 r0 r1 s0 s1 hb8 hP; have b0 := b0'; have b1 := b1'; clear b0' b1'
              obtain ⟨d0, g0, q0, r0, s0⟩ := Blk.facts b0
              obtain ⟨d1, g1, q1, r1, s1⟩ := Blk.facts b1
              go_wp2
              exact bodyPost_ret (v := .tuple #[.agg #[.int .i64 0, .bool false, .int .i64 0], .int .i64 9]) (by simp [results, Try.results30, go_sem, *]) rfl ⟨by rw [HVV.out], (by (repeat' (first | (with_reducible exact K8) | (with_reducible refine Below.setCell ?_ ?_ _) | (with_reducible refine Below.alloc ?_ ?_ _) | (with_reducible refine Below.drew ?_) | (with_reducible refine below_drewN ?_ _))) <;> (first | omega | (simp <;> omega)))⟩
          | false =>
            have hN3 : s = N := hN2.symm
            clear hN2
            obtain rfl : s = N := hN3
            have RIN := Lib.hid (fun W => leapin_any (s) W)
            by_cases hin : inS (s) = true
            · have hV := HVI.out hin
              rw [hin] at RIN
              have HVV := Lib.hid hV; clear hV hin HVI HVO HN
              go_wp2_with fail
              refine (RIN.out _).mono ?_
              rintro e w8 ⟨rfl, hb8⟩
              have b0' := Blk.keep hb8 (by (repeat' (first | (with_reducible refine' Blk.alloc ?_ _) | (with_reducible refine' Blk.drew ?_) | (with_reducible refine' Blk.drewN ?_ _) | (with_reducible refine' Blk.put ?_ ?_) | (with_reducible refine' Blk.far ?_ ?_ _) | exact b0 | exact rfl)) <;> (first | omega | (simp <;> omega)))
              have b1' := Blk.keep hb8 (by (repeat' (first | (with_reducible refine' Blk.alloc ?_ _) | (with_reducible refine' Blk.drew ?_) | (with_reducible refine' Blk.drewN ?_ _) | (with_reducible refine' Blk.put ?_ ?_) | (with_reducible refine' Blk.far ?_ ?_ _) | exact b1 | exact rfl)) <;> (first | omega | (simp <;> omega)))
              have K8 : Below w.heap.size w w8 := kept_call hb8 (by (repeat' (first | (with_reducible exact hP) | (with_reducible refine Below.setCell ?_ ?_ _) | (with_reducible refine Below.alloc ?_ ?_ _) | (with_reducible refine Below.drew ?_) | (with_reducible refine below_drewN ?_ _))) <;> (first | omega | (simp <;> omega)))
              clear b0 b1 d0 d1 g0 g1 q0 q1 r0 r1 s0 s1 hb8 hP; have b0 := b0'; have b1 := b1'; clear b0' b1'
              obtain ⟨d0, g0, q0, r0, s0⟩ := Blk.facts b0
              obtain ⟨d1, g1, q1, r1, s1⟩ := Blk.facts b1
              go_wp2_with fail
              refine (RP.out _).mono ?_
              rintro e w9 ⟨rfl, hb9⟩
              have b0' := Blk.keep hb9 (by (repeat' (first | (with_reducible refine' Blk.alloc ?_ _) | (with_reducible refine' Blk.drew ?_) | (with_reducible refine' Blk.drewN ?_ _) | (with_reducible refine' Blk.put ?_ ?_) | (with_reducible refine' Blk.far ?_ ?_ _) | exact b0 | exact rfl)) <;> (first | omega | (simp <;> omega)))
              have b1' := Blk.keep hb9 (by (repeat' (first | (with_reducible refine' Blk.alloc ?_ _) | (with_reducible refine' Blk.drew ?_) | (with_reducible refine' Blk.drewN ?_ _) | (with_reducible refine' Blk.put ?_ ?_) | (with_reducible refine' Blk.far ?_ ?_ _) | exact b1 | exact rfl)) <;> (first | omega | (simp <;> omega)))
              have K9 : Below w.heap.size w w9 := kept_call hb9 (by (repeat' (first | (with_reducible exact K8) | (with_reducible refine Below.setCell ?_ ?_ _) | (with_reducible refine Below.alloc ?_ ?_ _) | (with_reducible refine Below.drew ?_) | (with_reducible refine below_drewN ?_ _))) <;> (first | omega | (simp <;> omega)))
              clear b0 b1 d0 d1 g0 g1 q0 q1 r0 r1 s0 s1 hb9 K8; have b0 := b0'; have b1 := b1'; clear b0' b1'
              obtain ⟨d0, g0, q0, r0, s0⟩ := Blk.facts b0
              obtain ⟨d1, g1, q1, r1, s1⟩ := Blk.facts b1
              go_wp2
              exact bodyPost_ret (v := .tuple #[.agg #[.int .i64 (s), .bool false, .int .i64 part], .int .i64 0]) (by simp [results, Try.results30, go_sem, *]) rfl ⟨by rw [HVV.out], (by (repeat' (first | (with_reducible exact K9) | (with_reducible refine Below.setCell ?_ ?_ _) | (with_reducible refine Below.alloc ?_ ?_ _) | (with_reducible refine Below.drew ?_) | (with_reducible refine below_drewN ?_ _))) <;> (first | omega | (simp <;> omega)))⟩
            · have hV := HVO.out hin
              have hin : inS (s) = false := by simpa using hin
              rw [hin] at RIN
              have HVV := Lib.hid hV; clear hV hin HVI HVO HN
              go_wp2_with fail
              refine (RIN.out _).mono ?_
              rintro e w8 ⟨rfl, hb8⟩
              have b0' := Blk.keep hb8 (by (repeat' (first | (with_reducible refine' Blk.alloc ?_ _) | (with_reducible refine' Blk.drew ?_) | (with_reducible refine' Blk.drewN ?_ _) | (with_reducible refine' Blk.put ?_ ?_) | (with_reducible refine' Blk.far ?_ ?_ _) | exact b0 | exact rfl)) <;> (first | omega | (simp <;> omega)))
              have b1' := Blk.keep hb8 (by (repeat' (first | (with_reducible refine' Blk.alloc ?_ _) | (with_reducible refine' Blk.drew ?_) | (with_reducible refine' Blk.drewN ?_ _) | (with_reducible refine' Blk.put ?_ ?_) | (with_reducible refine' Blk.far ?_ ?_ _) | exact b1 | exact rfl)) <;> (first | omega | (simp <;> omega)))
              have K8 : Below w.heap.size w w8 := kept_call hb8 (by (repeat' (first | (with_reducible exact hP) | (with_reducible refine Below.setCell ?_ ?_ _) | (with_reducible refine Below.alloc ?_ ?_ _) | (with_reducible refine Below.drew ?_) | (with_reducible refine below_drewN ?_ _))) <;> (first | omega | (simp <;> omega)))
              clear b0 b1 d0 d1 g0 g1 q0 q1 r0 r1 s0 s1 hb8 hP; have b0 := b0'; have b1 := b1'; clear b0' b1'
              obtain ⟨d0, g0, q0, r0, s0⟩ := Blk.facts b0
              obtain ⟨d1, g1, q1, r1, s1⟩ := Blk.facts b1
              go_wp2
              exact bodyPost_ret (v := .tuple #[.agg #[.int .i64 0, .bool false, .int .i64 0], .int .i64 9]) (by simp [results, Try.results30, go_sem, *]) rfl ⟨by rw [HVV.out], (by (repeat' (first | (with_reducible exact K8) | (with_reducible refine Below.setCell ?_ ?_ _) | (with_reducible refine Below.alloc ?_ ?_ _) | (with_reducible refine Below.drew ?_) | (with_reducible refine below_drewN ?_ _))) <;> (first | omega | (simp <;> omega)))⟩
end Go.Proofs.Ytmebkbnildjfhaa
