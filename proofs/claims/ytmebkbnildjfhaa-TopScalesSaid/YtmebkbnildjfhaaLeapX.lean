/- leap.offset, step, in and the reference's. -/
import Derived.Test.YtmebkbnildjfhaaLeapQ
import Derived.Test.YtmebkbnildjfhaaLeapU
import Derived.Test.YtmebkbnildjfhaaLeapK
import Derived.Deep.DeepCutAuto
import Derived.Deep.LoopGhost
namespace Go.Proofs.Ytmebkbnildjfhaa
open Go.RowKit
set_option linter.unusedSimpArgs false
set_option linter.unusedVariables false

theorem offL_in {first : Int} {zs : List (Int × Int)} (hv : LVal first zs) (s : Int) : -64 ≤ offL first zs s ∧ offL first zs s ≤ 164 := by
  obtain ⟨k, hk, h, _⟩ := offL_place hv s
  rw [h]; exact hv.off hk
def OfR (w : World) (first : Int) (A : Option Addr) (len cap : Nat) (zs : List (Int × Int)) (s : Int) (G : Nat) (o i : Value) (wr : World) : Prop :=
  ∃ q : Nat, q ≤ len ∧ G = len - q ∧ i = .int .i64 q ∧ o = .int .i64 (offAt first zs s q) ∧ Blk wr w.heap.size 25 #[.int .i64 first, .slice A len cap] ∧ Below w.heap.size w wr
def ROfR (w : World) (first : Int) (A : Option Addr) (len cap : Nat) (zs : List (Int × Int)) (s : Int) (G : Nat) (o i : Value) (wr : World) : Prop :=
  ∃ q : Nat, q ≤ len ∧ G = len - q ∧ i = .int .i64 q ∧ o = .int .i64 (oldL first zs q) ∧ (q = 0 ∨ (zs.getD (q - 1) (0, 0)).1 ≤ s) ∧ Blk wr w.heap.size 25 #[.int .i64 first, .slice A len cap] ∧ Below w.heap.size w wr
set_option maxRecDepth 100000 in
set_option maxHeartbeats 1000000 in
theorem offset_any (first : Int) (A : Option Addr) (len cap : Nat) (zs : List (Int × Int)) (s : Int) (w : World) (h : PrAt w A len zs) :
    Calls Try.prog 64 #[.agg #[.int .i64 first, .slice A len cap], .int .i64 s] w (RB w (.int .i64 (offL first zs s))) := by
  have hz := h.1
  have hlm := h.2.1
  have H := Lib.hid h; clear h
  go_enter Try.func64, Try.ntmps64
  go_wp2
  go_loopg [5, 13] len (fun G o i wr => OfR w first A len cap zs s G o i wr)
  case atStart => exact ⟨0, by omega, by omega, rfl, rfl, by (repeat' (first | ((with_reducible refine' Blk.newE ?_); first | rfl | (simp; done)) | (with_reducible refine' Blk.alloc ?_ _) | (with_reducible refine' Blk.drew ?_) | (with_reducible refine' Blk.drewN ?_ _) | (with_reducible refine' Blk.put ?_ ?_) | (with_reducible refine' Blk.far ?_ ?_ _) | exact rfl)) <;> (first | omega | (simp <;> omega)), by (repeat' (first | (with_reducible exact Below.refl _ _) | (with_reducible refine Below.setCell ?_ ?_ _) | (with_reducible refine Below.alloc ?_ ?_ _) | (with_reducible refine Below.drew ?_) | (with_reducible refine below_drewN ?_ _))) <;> (first | omega | (simp <;> omega))⟩
  case round =>
    obtain ⟨q, hq, rfl, rfl, rfl, b0, KR⟩ := hrel
    have ZR := KR.size
    by_cases hlt : q < len
    · have gk : decide ((q : Int) < (len : Int)) = true := decide_eq_true (by omega)
      obtain ⟨bl, off, rfl, hb, hcs⟩ := H.out.2.2 (by omega)
      obtain ⟨e0, e1⟩ := hcs q hlt
      clear hcs
      have e0 := (KR.cell (p := ⟨bl, off + q * 2, none⟩) hb).trans e0
      have e1 := (KR.cell (p := ⟨bl, off + q * 2 + 1, none⟩) hb).trans e1
      have hbW : bl < wr.heap.size := by omega
      have nb2 : bl ≠ w.heap.size := by omega
      have nx : offAt first zs s (q + 1) = if (zs.getD q (0, 0)).1 ≤ s then (zs.getD q (0, 0)).2 else offAt first zs s q := rfl
      have NX := Lib.hid nx; clear nx
      have wq : IntKind.i64.wrap ((q : Int) + 1) = ((q + 1 : Nat) : Int) := by rw [IntWalk.i64_in _ (by omega)]; omega
      generalize zs.getD q (0, 0) = z at *
      obtain ⟨x, y⟩ := z
      dsimp only at *
      generalize offAt first zs s q = ov at *
      by_cases k1 : x ≤ s
      · have g1 : decide (x ≤ s) = true := decide_eq_true k1
        have HN := Lib.hid (show offAt first zs s (q + 1) = y from by rw [NX.out, if_pos k1])
        go_wp2
        go_roundg (len - (q + 1))
        case measure => omega
        case rel => exact ⟨q + 1, by omega, by omega, by go_num, by rw [HN.out], by (repeat' (first | (with_reducible exact b0) | (with_reducible refine' Blk.alloc ?_ _) | (with_reducible refine' Blk.drew ?_) | (with_reducible refine' Blk.drewN ?_ _) | (with_reducible refine' Blk.put ?_ ?_) | (with_reducible refine' Blk.far ?_ ?_ _) | exact b0 | exact rfl)) <;> (first | omega | (simp <;> omega)), by (repeat' (first | (with_reducible exact KR) | (with_reducible refine Below.setCell ?_ ?_ _) | (with_reducible refine Below.alloc ?_ ?_ _) | (with_reducible refine Below.drew ?_) | (with_reducible refine below_drewN ?_ _))) <;> (first | omega | (simp <;> omega))⟩
      · have g1 : decide (x ≤ s) = false := decide_eq_false k1
        have HN := Lib.hid (show offAt first zs s (q + 1) = ov from by rw [NX.out, if_neg k1])
        go_wp2
        go_roundg (len - (q + 1))
        case measure => omega
        case rel => exact ⟨q + 1, by omega, by omega, by go_num, by rw [HN.out], by (repeat' (first | (with_reducible exact b0) | (with_reducible refine' Blk.alloc ?_ _) | (with_reducible refine' Blk.drew ?_) | (with_reducible refine' Blk.drewN ?_ _) | (with_reducible refine' Blk.put ?_ ?_) | (with_reducible refine' Blk.far ?_ ?_ _) | exact b0 | exact rfl)) <;> (first | omega | (simp <;> omega)), by (repeat' (first | (with_reducible exact KR) | (with_reducible refine Below.setCell ?_ ?_ _) | (with_reducible refine Below.alloc ?_ ?_ _) | (with_reducible refine Below.drew ?_) | (with_reducible refine below_drewN ?_ _))) <;> (first | omega | (simp <;> omega))⟩
    · obtain rfl : q = len := by omega
      have gk : decide ((q : Int) < (q : Int)) = false := decide_eq_false (by omega)
      have hv : offL first zs s = offAt first zs s q := by unfold offL; rw [hz]
      have HV := Lib.hid hv; clear hv
      generalize offAt first zs s q = ov at *
      go_wp2
      go_ret
      exact ⟨by rw [HV.out]; rfl, (by (repeat' (first | (with_reducible exact KR) | (with_reducible refine Below.setCell ?_ ?_ _) | (with_reducible refine Below.alloc ?_ ?_ _) | (with_reducible refine Below.drew ?_) | (with_reducible refine below_drewN ?_ _))) <;> (first | omega | (simp <;> omega)))⟩
set_option maxRecDepth 100000 in
set_option maxHeartbeats 1000000 in
theorem roffset_any (first : Int) (A : Option Addr) (len cap : Nat) (zs : List (Int × Int)) (hv : LVal first zs) (s : Int) (w : World) (h : PrAt w A len zs) :
    Calls Try.prog 116 #[.agg #[.int .i64 first, .slice A len cap], .int .i64 s] w (RB w (.int .i64 (offL first zs s))) := by
  have hz := h.1
  have hlm := h.2.1
  have H := Lib.hid h; have HV := Lib.hid hv; clear h hv
  go_enter Try.func116, Try.ntmps116
  go_wp2
  go_loopg [5, 6] len (fun G o i wr => ROfR w first A len cap zs s G o i wr)
  case atStart => exact ⟨0, by omega, by omega, rfl, rfl, .inl rfl, by (repeat' (first | ((with_reducible refine' Blk.newE ?_); first | rfl | (simp; done)) | (with_reducible refine' Blk.alloc ?_ _) | (with_reducible refine' Blk.drew ?_) | (with_reducible refine' Blk.drewN ?_ _) | (with_reducible refine' Blk.put ?_ ?_) | (with_reducible refine' Blk.far ?_ ?_ _) | exact rfl)) <;> (first | omega | (simp <;> omega)), by (repeat' (first | (with_reducible exact Below.refl _ _) | (with_reducible refine Below.setCell ?_ ?_ _) | (with_reducible refine Below.alloc ?_ ?_ _) | (with_reducible refine Below.drew ?_) | (with_reducible refine below_drewN ?_ _))) <;> (first | omega | (simp <;> omega))⟩
  case round =>
    obtain ⟨q, hq, rfl, rfl, rfl, hp, b0, KR⟩ := hrel
    have ZR := KR.size
    have HP := Lib.hid hp; clear hp
    obtain ⟨c0, f0, l0, -, -⟩ := Blk.facts b0
    by_cases hlt : q < len
    · have gk : decide ((q : Int) < (len : Int)) = true := decide_eq_true (by omega)
      obtain ⟨bl, off, rfl, hb, hcs⟩ := H.out.2.2 (by omega)
      obtain ⟨e0, e1⟩ := hcs q hlt
      clear hcs
      have e0 := (KR.cell (p := ⟨bl, off + q * 2, none⟩) hb).trans e0
      have e1 := (KR.cell (p := ⟨bl, off + q * 2 + 1, none⟩) hb).trans e1
      have hbW : bl < wr.heap.size := by omega
      have nb2 : bl ≠ w.heap.size := by omega
      have os := oldL_succ (first := first) (zs := zs) q
      have ex := offL_eq (first := first) HV.out (s := s) (k := q) (by omega)
      have wq : IntKind.i64.wrap ((q : Int) + 1) = ((q + 1 : Nat) : Int) := by rw [IntWalk.i64_in _ (by omega)]; omega
      have gz : (zs.getD (q + 1 - 1) (0, 0)).1 = (zs.getD q (0, 0)).1 := by rw [Nat.add_sub_cancel]
      have OS := Lib.hid os; have EX := Lib.hid ex; have GZ := Lib.hid gz; clear os ex gz
      generalize zs.getD q (0, 0) = z at *
      obtain ⟨x, y⟩ := z
      dsimp only at *
      generalize oldL first zs q = ov at *
      by_cases k1 : x ≤ s
      · have g1 : decide (x ≤ s) = true := decide_eq_true k1
        go_wp2
        go_roundg (len - (q + 1))
        case measure => omega
        case rel => exact ⟨q + 1, by omega, by omega, by go_num, by rw [OS.out], .inr (by rw [GZ.out]; exact k1), by (repeat' (first | (with_reducible exact b0) | (with_reducible refine' Blk.alloc ?_ _) | (with_reducible refine' Blk.drew ?_) | (with_reducible refine' Blk.drewN ?_ _) | (with_reducible refine' Blk.put ?_ ?_) | (with_reducible refine' Blk.far ?_ ?_ _) | exact b0 | exact rfl)) <;> (first | omega | (simp <;> omega)), by (repeat' (first | (with_reducible exact KR) | (with_reducible refine Below.setCell ?_ ?_ _) | (with_reducible refine Below.alloc ?_ ?_ _) | (with_reducible refine Below.drew ?_) | (with_reducible refine below_drewN ?_ _))) <;> (first | omega | (simp <;> omega))⟩
      · have g1 : decide (x ≤ s) = false := decide_eq_false k1
        go_wp2
        go_ret
        exact ⟨by rw [EX.out (fun _ => by omega) HP.out]; rfl, (by (repeat' (first | (with_reducible exact KR) | (with_reducible refine Below.setCell ?_ ?_ _) | (with_reducible refine Below.alloc ?_ ?_ _) | (with_reducible refine Below.drew ?_) | (with_reducible refine below_drewN ?_ _))) <;> (first | omega | (simp <;> omega)))⟩
    · obtain rfl : q = len := by omega
      have gk : decide ((q : Int) < (q : Int)) = false := decide_eq_false (by omega)
      have ex := offL_eq (first := first) HV.out (s := s) (k := q) (by omega) (fun h => by omega) HP.out
      have EX := Lib.hid ex; clear ex
      generalize oldL first zs q = ov at *
      go_wp2
      go_ret
      exact ⟨by rw [EX.out]; rfl, (by (repeat' (first | (with_reducible exact KR) | (with_reducible refine Below.setCell ?_ ?_ _) | (with_reducible refine Below.alloc ?_ ?_ _) | (with_reducible refine Below.drew ?_) | (with_reducible refine below_drewN ?_ _))) <;> (first | omega | (simp <;> omega)))⟩
set_option maxRecDepth 100000 in
set_option maxHeartbeats 1000000 in
theorem step_any (first : Int) (A : Option Addr) (len cap : Nat) (zs : List (Int × Int)) (hv : LVal first zs) (s : Int) (s0 : -1099511627776 ≤ s) (s1 : s ≤ 1099511627776) (w : World) (h : PrAt w A len zs) :
    Calls Try.prog 63 #[.agg #[.int .i64 first, .slice A len cap], .int .i64 s] w (RB w (.int .i64 (stepL first zs s))) := by
  have b1 := offL_in hv s
  have b2 := offL_in hv (s + 1)
  have RO := Lib.hid (fun x W (hW : Below w.heap.size w W) => offset_any first A len cap zs x W (h.below hW))
  clear h hv
  unfold stepL
  have R1 := Lib.hid (RO.out s); have R2 := Lib.hid (RO.out (s + 1)); clear RO
  generalize offL first zs s = p at *
  generalize offL first zs (s + 1) = q at *
  have w1 : IntKind.i64.wrap (s + 1) = s + 1 := IntWalk.i64_in _ (by omega)
  have w2 : IntKind.i64.wrap (q - p) = q - p := IntWalk.i64_in _ (by omega)
  go_enter Try.func63, Try.ntmps63
  go_upto_region 1 with fail
  refine' wp_region_calm (by kernel_rfl) (fun _ _ w' => Below w.heap.size w w' ∧ Blk w' (w.heap.size) 25 #[.int .i64 first, .slice A len cap]) (fun _ _ => True) [(Is _), (Is _), (Is _), (Is _), (Is _), (Is _), (Is _), (Is _), (Is _)] [[], [], [1], [0, 2], [], [], [4, 5], [3, 6], [7]] [] [] rfl (by kernel_rfl) (fun u => by (simp only [calmPut, Act.put, List.setIfInBounds_toArray, List.set_cons_zero, List.set_cons_succ, Nat.zero_add, Nat.reduceAdd]; rfl)) ?_ (calmKeep_cons keep_is' (calmKeep_cons keep_is' (calmKeep_cons keep_is' (calmKeep_cons keep_is' (calmKeep_cons keep_is' (calmKeep_cons keep_is' (calmKeep_cons keep_is' (calmKeep_cons keep_is' (calmKeep_cons keep_is' (calmKeep_nil)))))))))) ?_ ?_
  · intro _
    exact ⟨(by (repeat' (first | (with_reducible exact Below.refl _ _) | (with_reducible refine Below.setCell ?_ ?_ _) | (with_reducible refine Below.alloc ?_ ?_ _) | (with_reducible refine Below.drew ?_) | (with_reducible refine below_drewN ?_ _))) <;> (first | omega | (simp <;> omega))), (by (repeat' (first | ((with_reducible refine' Blk.newE ?_); first | rfl | (simp; done)) | (with_reducible refine' Blk.alloc ?_ _) | (with_reducible refine' Blk.drew ?_) | (with_reducible refine' Blk.drewN ?_ _) | (with_reducible refine' Blk.put ?_ ?_) | (with_reducible refine' Blk.far ?_ ?_ _) | exact rfl)) <;> (first | omega | (simp <;> omega)))⟩
  rotate_left 9
  · skip
    refine calmSteps_cons (fun u wq n hn hn2 hC hk K hK => ?_) ?_
    · obtain ⟨hP, m0⟩ := hC
      clear hk
      have z0 := m0.cell
      go_simp
      exact hK _ _ _ rfl ⟨hP, m0⟩ trivial rfl
    refine calmSteps_cons (fun u wq n hn hn2 hC hk K hK => ?_) ?_
    · obtain ⟨hP, m0⟩ := hC
      clear hk
      go_simp
      exact hK _ _ _ rfl ⟨hP, m0⟩ trivial rfl
    refine calmSteps_cons (fun u wq n hn hn2 hC hk K hK => ?_) ?_
    · obtain ⟨hP, m0⟩ := hC
      simp only [calmKnown, List.getElem?_cons_zero, List.getElem?_cons_succ, and_true, Is, Pure, Option.some.injEq, List.getD_cons_zero, List.getD_cons_succ, List.map_cons, List.map_nil] at hk
      have h1 := hk; clear hk
      simp only [h1] at hK ⊢
      have H1 := Lib.hid h1; clear h1
      go_simp
      exact hK _ _ _ rfl ⟨hP, m0⟩ trivial rfl
    refine calmSteps_cons (fun u wq n hn hn2 hC hk K hK => ?_) ?_
    · obtain ⟨hP, m0⟩ := hC
      simp only [calmKnown, List.getElem?_cons_zero, List.getElem?_cons_succ, and_true, Is, Pure, Option.some.injEq, List.getD_cons_zero, List.getD_cons_succ, List.map_cons, List.map_nil] at hk
      obtain ⟨h0, h2⟩ := hk
      simp only [h0, h2] at hK ⊢
      have H0 := Lib.hid h0; clear h0; have H2 := Lib.hid h2; clear h2
      go_wp2_with fail
      first | (with_reducible refine (R1.out _ hP).mono ?_) | (with_reducible refine (R2.out _ hP).mono ?_)
      rintro e w2 ⟨rfl, hbl⟩
      exact hK _ _ _ rfl ⟨kept_call hbl hP, Blk.keep hbl m0⟩ trivial rfl
    refine calmSteps_cons (fun u wq n hn hn2 hC hk K hK => ?_) ?_
    · obtain ⟨hP, m0⟩ := hC
      clear hk
      have z0 := m0.cell
      go_simp
      exact hK _ _ _ rfl ⟨hP, m0⟩ trivial rfl
    refine calmSteps_cons (fun u wq n hn hn2 hC hk K hK => ?_) ?_
    · obtain ⟨hP, m0⟩ := hC
      clear hk
      go_simp
      exact hK _ _ _ rfl ⟨hP, m0⟩ trivial rfl
    refine calmSteps_cons (fun u wq n hn hn2 hC hk K hK => ?_) ?_
    · obtain ⟨hP, m0⟩ := hC
      simp only [calmKnown, List.getElem?_cons_zero, List.getElem?_cons_succ, and_true, Is, Pure, Option.some.injEq, List.getD_cons_zero, List.getD_cons_succ, List.map_cons, List.map_nil] at hk
      obtain ⟨h4, h5⟩ := hk
      simp only [h4, h5] at hK ⊢
      have H4 := Lib.hid h4; clear h4; have H5 := Lib.hid h5; clear h5
      go_wp2_with fail
      first | (with_reducible refine (R1.out _ hP).mono ?_) | (with_reducible refine (R2.out _ hP).mono ?_)
      rintro e w2 ⟨rfl, hbl⟩
      exact hK _ _ _ rfl ⟨kept_call hbl hP, Blk.keep hbl m0⟩ trivial rfl
    refine calmSteps_cons (fun u wq n hn hn2 hC hk K hK => ?_) ?_
    · obtain ⟨hP, m0⟩ := hC
      simp only [calmKnown, List.getElem?_cons_zero, List.getElem?_cons_succ, and_true, Is, Pure, Option.some.injEq, List.getD_cons_zero, List.getD_cons_succ, List.map_cons, List.map_nil] at hk
      obtain ⟨h3, h6⟩ := hk
      simp only [h3, h6] at hK ⊢
      have H3 := Lib.hid h3; clear h3; have H6 := Lib.hid h6; clear h6
      go_simp
      exact hK _ _ _ rfl ⟨hP, m0⟩ trivial rfl
    refine calmSteps_cons (fun u wq n hn hn2 hC hk K hK => ?_) ?_
    · obtain ⟨hP, m0⟩ := hC
      simp only [calmKnown, List.getElem?_cons_zero, List.getElem?_cons_succ, and_true, Is, Pure, Option.some.injEq, List.getD_cons_zero, List.getD_cons_succ, List.map_cons, List.map_nil] at hk
      have h7 := hk; clear hk
      simp only [h7] at hK ⊢
      have H7 := Lib.hid h7; clear h7
      go_simp
      exact hK _ _ _ rfl ⟨hP, m0⟩ trivial rfl
    exact calmSteps_nil
  · intro u w1 hC hF
    obtain ⟨hP, m0⟩ := hC
    simp only [calmFacts, Is, and_true] at hF
    obtain ⟨f0, f1, f2, f3, f4, f5, f6, f7, f8⟩ := hF
    simp only [f0, f1, f2, f3, f4, f5, f6, f7, f8]
    clear f0 f1 f2 f3 f4 f5 f6 f7 f8
    have K1 := hP
    have Z1 : w.heap.size ≤ w1.heap.size := K1.size
    clear hP
    have b0 := m0; clear m0
    obtain ⟨c0, f0, l0, e0, k0⟩ := Blk.facts b0
    go_wp2
    go_ret
    exact ⟨rfl, (by (repeat' (first | (with_reducible exact K1) | (with_reducible refine Below.setCell ?_ ?_ _) | (with_reducible refine Below.alloc ?_ ?_ _) | (with_reducible refine Below.drew ?_) | (with_reducible refine below_drewN ?_ _))) <;> (first | omega | (simp <;> omega)))⟩
set_option maxRecDepth 100000 in
set_option maxHeartbeats 1000000 in
theorem rstep_any (first : Int) (A : Option Addr) (len cap : Nat) (zs : List (Int × Int)) (hv : LVal first zs) (s : Int) (s0 : -1099511627776 ≤ s) (s1 : s ≤ 1099511627776) (w : World) (h : PrAt w A len zs) :
    Calls Try.prog 115 #[.agg #[.int .i64 first, .slice A len cap], .int .i64 s] w (RB w (.int .i64 (stepL first zs s))) := by
  have b1 := offL_in hv s
  have b2 := offL_in hv (s + 1)
  have RO := Lib.hid (fun x W (hW : Below w.heap.size w W) => roffset_any first A len cap zs hv x W (h.below hW))
  clear h hv
  unfold stepL
  have R1 := Lib.hid (RO.out s); have R2 := Lib.hid (RO.out (s + 1)); clear RO
  generalize offL first zs s = p at *
  generalize offL first zs (s + 1) = q at *
  have w1 : IntKind.i64.wrap (s + 1) = s + 1 := IntWalk.i64_in _ (by omega)
  have w2 : IntKind.i64.wrap (q - p) = q - p := IntWalk.i64_in _ (by omega)
  go_enter Try.func115, Try.ntmps115
  go_upto_region 1 with fail
  refine' wp_region_calm (by kernel_rfl) (fun _ _ w' => Below w.heap.size w w' ∧ Blk w' (w.heap.size) 25 #[.int .i64 first, .slice A len cap]) (fun _ _ => True) [(Is _), (Is _), (Is _), (Is _), (Is _), (Is _), (Is _), (Is _), (Is _)] [[], [], [1], [0, 2], [], [], [4, 5], [3, 6], [7]] [] [] rfl (by kernel_rfl) (fun u => by (simp only [calmPut, Act.put, List.setIfInBounds_toArray, List.set_cons_zero, List.set_cons_succ, Nat.zero_add, Nat.reduceAdd]; rfl)) ?_ (calmKeep_cons keep_is' (calmKeep_cons keep_is' (calmKeep_cons keep_is' (calmKeep_cons keep_is' (calmKeep_cons keep_is' (calmKeep_cons keep_is' (calmKeep_cons keep_is' (calmKeep_cons keep_is' (calmKeep_cons keep_is' (calmKeep_nil)))))))))) ?_ ?_
  · intro _
    exact ⟨(by (repeat' (first | (with_reducible exact Below.refl _ _) | (with_reducible refine Below.setCell ?_ ?_ _) | (with_reducible refine Below.alloc ?_ ?_ _) | (with_reducible refine Below.drew ?_) | (with_reducible refine below_drewN ?_ _))) <;> (first | omega | (simp <;> omega))), (by (repeat' (first | ((with_reducible refine' Blk.newE ?_); first | rfl | (simp; done)) | (with_reducible refine' Blk.alloc ?_ _) | (with_reducible refine' Blk.drew ?_) | (with_reducible refine' Blk.drewN ?_ _) | (with_reducible refine' Blk.put ?_ ?_) | (with_reducible refine' Blk.far ?_ ?_ _) | exact rfl)) <;> (first | omega | (simp <;> omega)))⟩
  rotate_left 9
  · skip
    refine calmSteps_cons (fun u wq n hn hn2 hC hk K hK => ?_) ?_
    · obtain ⟨hP, m0⟩ := hC
      clear hk
      have z0 := m0.cell
      go_simp
      exact hK _ _ _ rfl ⟨hP, m0⟩ trivial rfl
    refine calmSteps_cons (fun u wq n hn hn2 hC hk K hK => ?_) ?_
    · obtain ⟨hP, m0⟩ := hC
      clear hk
      go_simp
      exact hK _ _ _ rfl ⟨hP, m0⟩ trivial rfl
    refine calmSteps_cons (fun u wq n hn hn2 hC hk K hK => ?_) ?_
    · obtain ⟨hP, m0⟩ := hC
      simp only [calmKnown, List.getElem?_cons_zero, List.getElem?_cons_succ, and_true, Is, Pure, Option.some.injEq, List.getD_cons_zero, List.getD_cons_succ, List.map_cons, List.map_nil] at hk
      have h1 := hk; clear hk
      simp only [h1] at hK ⊢
      have H1 := Lib.hid h1; clear h1
      go_simp
      exact hK _ _ _ rfl ⟨hP, m0⟩ trivial rfl
    refine calmSteps_cons (fun u wq n hn hn2 hC hk K hK => ?_) ?_
    · obtain ⟨hP, m0⟩ := hC
      simp only [calmKnown, List.getElem?_cons_zero, List.getElem?_cons_succ, and_true, Is, Pure, Option.some.injEq, List.getD_cons_zero, List.getD_cons_succ, List.map_cons, List.map_nil] at hk
      obtain ⟨h0, h2⟩ := hk
      simp only [h0, h2] at hK ⊢
      have H0 := Lib.hid h0; clear h0; have H2 := Lib.hid h2; clear h2
      go_wp2_with fail
      first | (with_reducible refine (R1.out _ hP).mono ?_) | (with_reducible refine (R2.out _ hP).mono ?_)
      rintro e w2 ⟨rfl, hbl⟩
      exact hK _ _ _ rfl ⟨kept_call hbl hP, Blk.keep hbl m0⟩ trivial rfl
    refine calmSteps_cons (fun u wq n hn hn2 hC hk K hK => ?_) ?_
    · obtain ⟨hP, m0⟩ := hC
      clear hk
      have z0 := m0.cell
      go_simp
      exact hK _ _ _ rfl ⟨hP, m0⟩ trivial rfl
    refine calmSteps_cons (fun u wq n hn hn2 hC hk K hK => ?_) ?_
    · obtain ⟨hP, m0⟩ := hC
      clear hk
      go_simp
      exact hK _ _ _ rfl ⟨hP, m0⟩ trivial rfl
    refine calmSteps_cons (fun u wq n hn hn2 hC hk K hK => ?_) ?_
    · obtain ⟨hP, m0⟩ := hC
      simp only [calmKnown, List.getElem?_cons_zero, List.getElem?_cons_succ, and_true, Is, Pure, Option.some.injEq, List.getD_cons_zero, List.getD_cons_succ, List.map_cons, List.map_nil] at hk
      obtain ⟨h4, h5⟩ := hk
      simp only [h4, h5] at hK ⊢
      have H4 := Lib.hid h4; clear h4; have H5 := Lib.hid h5; clear h5
      go_wp2_with fail
      first | (with_reducible refine (R1.out _ hP).mono ?_) | (with_reducible refine (R2.out _ hP).mono ?_)
      rintro e w2 ⟨rfl, hbl⟩
      exact hK _ _ _ rfl ⟨kept_call hbl hP, Blk.keep hbl m0⟩ trivial rfl
    refine calmSteps_cons (fun u wq n hn hn2 hC hk K hK => ?_) ?_
    · obtain ⟨hP, m0⟩ := hC
      simp only [calmKnown, List.getElem?_cons_zero, List.getElem?_cons_succ, and_true, Is, Pure, Option.some.injEq, List.getD_cons_zero, List.getD_cons_succ, List.map_cons, List.map_nil] at hk
      obtain ⟨h3, h6⟩ := hk
      simp only [h3, h6] at hK ⊢
      have H3 := Lib.hid h3; clear h3; have H6 := Lib.hid h6; clear h6
      go_simp
      exact hK _ _ _ rfl ⟨hP, m0⟩ trivial rfl
    refine calmSteps_cons (fun u wq n hn hn2 hC hk K hK => ?_) ?_
    · obtain ⟨hP, m0⟩ := hC
      simp only [calmKnown, List.getElem?_cons_zero, List.getElem?_cons_succ, and_true, Is, Pure, Option.some.injEq, List.getD_cons_zero, List.getD_cons_succ, List.map_cons, List.map_nil] at hk
      have h7 := hk; clear hk
      simp only [h7] at hK ⊢
      have H7 := Lib.hid h7; clear h7
      go_simp
      exact hK _ _ _ rfl ⟨hP, m0⟩ trivial rfl
    exact calmSteps_nil
  · intro u w1 hC hF
    obtain ⟨hP, m0⟩ := hC
    simp only [calmFacts, Is, and_true] at hF
    obtain ⟨f0, f1, f2, f3, f4, f5, f6, f7, f8⟩ := hF
    simp only [f0, f1, f2, f3, f4, f5, f6, f7, f8]
    clear f0 f1 f2 f3 f4 f5 f6 f7 f8
    have K1 := hP
    have Z1 : w.heap.size ≤ w1.heap.size := K1.size
    clear hP
    have b0 := m0; clear m0
    obtain ⟨c0, f0, l0, e0, k0⟩ := Blk.facts b0
    go_wp2
    go_ret
    exact ⟨rfl, (by (repeat' (first | (with_reducible exact K1) | (with_reducible refine Below.setCell ?_ ?_ _) | (with_reducible refine Below.alloc ?_ ?_ _) | (with_reducible refine Below.drew ?_) | (with_reducible refine below_drewN ?_ _))) <;> (first | omega | (simp <;> omega)))⟩
set_option maxHeartbeats 400000 in
theorem leapin_any (s : Int) (w : World) :
    Calls Try.prog 62 #[.int .i64 s] w (RB w (.bool (inS s))) := by
  unfold inS
  by_cases h0 : 0 ≤ s
  · by_cases h1 : s ≤ 274877906944
    · have g0 : decide (0 ≤ s) = true := decide_eq_true h0
      have g1 : decide (s ≤ 274877906944) = true := decide_eq_true h1
      rw [g0, g1]
      go_enter Try.func62, Try.ntmps62
      go_wp2
      go_ret
      exact ⟨rfl, (by (repeat' (first | (with_reducible exact Below.refl _ _) | (with_reducible refine Below.setCell ?_ ?_ _) | (with_reducible refine Below.alloc ?_ ?_ _) | (with_reducible refine Below.drew ?_) | (with_reducible refine below_drewN ?_ _))) <;> (first | omega | (simp <;> omega)))⟩
    · have g0 : decide (0 ≤ s) = true := decide_eq_true h0
      have g1 : decide (s ≤ 274877906944) = false := decide_eq_false h1
      rw [g0, g1]
      go_enter Try.func62, Try.ntmps62
      go_wp2
      go_ret
      exact ⟨rfl, (by (repeat' (first | (with_reducible exact Below.refl _ _) | (with_reducible refine Below.setCell ?_ ?_ _) | (with_reducible refine Below.alloc ?_ ?_ _) | (with_reducible refine Below.drew ?_) | (with_reducible refine below_drewN ?_ _))) <;> (first | omega | (simp <;> omega)))⟩
  · have g0 : decide (0 ≤ s) = false := decide_eq_false h0
    rw [g0]
    go_enter Try.func62, Try.ntmps62
    go_wp2
    go_ret
    exact ⟨rfl, (by (repeat' (first | (with_reducible exact Below.refl _ _) | (with_reducible refine Below.setCell ?_ ?_ _) | (with_reducible refine Below.alloc ?_ ?_ _) | (with_reducible refine Below.drew ?_) | (with_reducible refine below_drewN ?_ _))) <;> (first | omega | (simp <;> omega)))⟩
set_option maxHeartbeats 400000 in
theorem rleapin_any (s : Int) (w : World) :
    Calls Try.prog 114 #[.int .i64 s] w (RB w (.bool (inS s))) := by
  unfold inS
  by_cases h0 : 0 ≤ s
  · by_cases h1 : s ≤ 274877906944
    · have g0 : decide (0 ≤ s) = true := decide_eq_true h0
      have g1 : decide (s ≤ 274877906944) = true := decide_eq_true h1
      rw [g0, g1]
      go_enter Try.func114, Try.ntmps114
      go_wp2
      go_ret
      exact ⟨rfl, (by (repeat' (first | (with_reducible exact Below.refl _ _) | (with_reducible refine Below.setCell ?_ ?_ _) | (with_reducible refine Below.alloc ?_ ?_ _) | (with_reducible refine Below.drew ?_) | (with_reducible refine below_drewN ?_ _))) <;> (first | omega | (simp <;> omega)))⟩
    · have g0 : decide (0 ≤ s) = true := decide_eq_true h0
      have g1 : decide (s ≤ 274877906944) = false := decide_eq_false h1
      rw [g0, g1]
      go_enter Try.func114, Try.ntmps114
      go_wp2
      go_ret
      exact ⟨rfl, (by (repeat' (first | (with_reducible exact Below.refl _ _) | (with_reducible refine Below.setCell ?_ ?_ _) | (with_reducible refine Below.alloc ?_ ?_ _) | (with_reducible refine Below.drew ?_) | (with_reducible refine below_drewN ?_ _))) <;> (first | omega | (simp <;> omega)))⟩
  · have g0 : decide (0 ≤ s) = false := decide_eq_false h0
    rw [g0]
    go_enter Try.func114, Try.ntmps114
    go_wp2
    go_ret
    exact ⟨rfl, (by (repeat' (first | (with_reducible exact Below.refl _ _) | (with_reducible refine Below.setCell ?_ ?_ _) | (with_reducible refine Below.alloc ?_ ?_ _) | (with_reducible refine Below.drew ?_) | (with_reducible refine below_drewN ?_ _))) <;> (first | omega | (simp <;> omega)))⟩
end Go.Proofs.Ytmebkbnildjfhaa
