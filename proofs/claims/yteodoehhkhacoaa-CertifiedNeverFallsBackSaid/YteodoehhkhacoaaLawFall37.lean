/- The walk of the law CertifiedNeverFallsBack. -/
import Derived.Test.YteodoehhkhacoaaLawKeep37
namespace Go.Proofs.Yteodoehhkhacoaa
open Go.RowKit

def SpanW (m : Int) (v : Value) : Prop := ∃ c d : Int, v = .agg #[.int .i64 c, .int .i64 d] ∧ -m ≤ c ∧ c ≤ m ∧ c ≤ d ∧ d ≤ c + m
theorem opT_ok {lo hi : Int} (h : vS lo hi = true) : opT true true lo hi = (lo, hi, 0) := by unfold opT; rw [h]; rfl

set_option maxRecDepth 100000 in
set_option maxHeartbeats 8000000 in
theorem falls37_core (A : Option Addr) (len cap : Nat) (zs : List Int) (v1 v2 : Int) (w : World) (hA : IntsAt w A len zs) :
    Calls Try.prog 5 #[.slice A len cap, .int .i64 v1, .int .i64 v2] w (RB w (.bool true)) := by
  have r1 := fun w => (within_any v1 5000 w (by omega) (by omega)).mono fun _ _ h => (⟨h.1, h.2.symm⟩ : _ ∧ _)
  have q10 : 0 ≤ v1 % 5000 := by omega
  have q11 : v1 % 5000 < 5000 := by omega
  generalize v1 % 5000 = m1 at *
  have R1 := Lib.hid r1; clear r1
  have r2 := fun w => (within_any v2 5000 w (by omega) (by omega)).mono fun _ _ h => (⟨h.1, h.2.symm⟩ : _ ∧ _)
  have q20 : 0 ≤ v2 % 5000 := by omega
  have q21 : v2 % 5000 < 5000 := by omega
  generalize v2 % 5000 = m2 at *
  have R2 := Lib.hid r2; clear r2
  have H := Lib.hid hA; clear hA
  go_enter Try.func5, Try.ntmps5
  go_wp2_with fail
  refine (new_any A len cap zs _ H.out).mono ?_
  rintro e w1 ⟨rfl, ht1, hb1⟩
  have K1 : Below w.heap.size w w1 := kept_call hb1 (by (repeat' (first | (with_reducible exact Below.refl _ _) | (with_reducible refine Below.setCell ?_ ?_ _) | (with_reducible refine Below.alloc ?_ ?_ _) | (with_reducible refine Below.drew ?_) | (with_reducible refine below_drewN ?_ _))) <;> (first | omega | (simp <;> omega)))
  have Z1 : w.heap.size ≤ w1.heap.size := K1.size
  clear hb1
  have T1 := ht1.lt
  have HT := Lib.hid ht1; clear ht1
  have HB : w.heap.size ≤ w.heap.size := Nat.le_refl _
  go_wp2_with fail
  refine (made_any _ _ (by (repeat' (first | (with_reducible exact HT.out) | (with_reducible refine' TapeAt.alloc ?_ _) | (with_reducible refine' TapeAt.drew ?_) | (with_reducible refine' TapeAt.drewN ?_ _) | (with_reducible refine' TapeAt.set ?_ ?_ _))) <;> (first | omega | (simp <;> omega)))).mono ?_
  rintro e w2 ⟨ka, klo, khi, kp, kl, kr, rfl, kin, ht2, hg2⟩
  have K2 : Below w.heap.size w w2 := below_grown2 (by (repeat' (first | (with_reducible exact K1) | (with_reducible refine Below.setCell ?_ ?_ _) | (with_reducible refine Below.alloc ?_ ?_ _) | (with_reducible refine Below.drew ?_) | (with_reducible refine below_drewN ?_ _))) <;> (first | omega | (simp <;> omega))) hg2 (by first | omega | (simp <;> omega))
  have Z2 : w.heap.size ≤ w2.heap.size := K2.size
  clear HT; have T2 := ht2.lt; have HT := Lib.hid ht2; clear ht2
  clear hg2 K1
  obtain ⟨a0, a1, l0, l1, h1, p0, p1, c0, c1, e0, e1⟩ := kin
  obtain ⟨a, ha⟩ : ∃ a, a = ka + m1 := ⟨_, rfl⟩
  obtain ⟨b, hb⟩ : ∃ b, b = a + m2 := ⟨_, rfl⟩
  have A0 : ka ≤ a := by omega
  have A1 : a ≤ 6000 := by omega
  have B0 : a ≤ b := by omega
  have B1 : b ≤ 12000 := by omega
  have s1 : IntKind.i64.wrap (ka + m1) = a := by rw [IntWalk.i64_in _ (by omega)]; exact ha.symm
  have s2 : IntKind.i64.wrap (a + m2) = b := by rw [IntWalk.i64_in _ (by omega)]; exact hb.symm
  obtain ⟨N1, N2, N3, N4, N5, N6⟩ := now_near (P := kp) (u := a) (ka := ka) (klo := klo) (khi := khi) (le := kl) (re := kr) (by omega) (by omega) (by omega) (by omega) (by omega) (by omega) (by omega) (by omega) (by omega) (by omega) (by omega) (by omega)
  obtain ⟨M1, M2, M3, M4, M5, M6⟩ := now_near (P := kp) (u := b) (ka := ka) (klo := klo) (khi := khi) (le := kl) (re := kr) (by omega) (by omega) (by omega) (by omega) (by omega) (by omega) (by omega) (by omega) (by omega) (by omega) (by omega) (by omega)
  have M7 := (now_near (P := kp) (u := b) (ka := ka) (klo := klo) (khi := khi) (le := kl) (re := kr + 1) (by omega) (by omega) (by omega) (by omega) (by omega) (by omega) (by omega) (by omega) (by omega) (by omega) (by omega) (by omega)).1
  have E1 := lo_longer (d := a - ka) (p := kp) (by omega) (by omega) (by omega) (m := m2) (by omega)
  have E2 := lo_sum (d := a - ka) (p := kp) (by omega) (by omega) (by omega) (b - a)
  have E3 := hi_sum (d := a - ka) (p := kp) (by omega) (by omega) (by omega) (b - a)
  have E4 := lo_pos (d := b - a) (p := kp) (by omega) (by omega) (by omega)
  have E5 := hi_two (d := b - a) (p := kp) (by omega) (by omega) (by omega)
  have E6 := le_hi (d := b - a) (p := kp) (by omega) (by omega) (by omega)
  rw [show a - ka + m2 = b - ka by omega] at E1
  rw [show b - a + (a - ka) = b - ka by omega] at E2 E3
  generalize hel : elLo (b - a) kp = el at *
  generalize heh : elHi (b - a) kp = eh at *
  obtain ⟨x1, hx1⟩ : ∃ x, x = klo + elLo (a - ka) kp := ⟨_, rfl⟩
  obtain ⟨x2, hx2⟩ : ∃ x, x = khi + elHi (a - ka) kp := ⟨_, rfl⟩
  obtain ⟨y1, hy1⟩ : ∃ x, x = klo + elLo (b - ka) kp := ⟨_, rfl⟩
  obtain ⟨y2, hy2⟩ : ∃ x, x = khi + elHi (b - ka) kp := ⟨_, rfl⟩
  have F1 : x1 ≤ y1 := by omega
  have F2 : x1 + el ≤ y1 := by omega
  have F3 : y2 ≤ x2 + eh := by omega
  rw [← hx1, ← hx2] at N1 N2 N6
  rw [← hx1] at N3
  rw [← hx2] at N4 N5
  rw [← hy1, ← hy2] at M1 M2 M6 M7
  rw [← hy1] at M3
  rw [← hy2] at M4 M5
  clear hx1 hx2 hy1 hy2 E1 E2 E3
  have u1 := inow_any ka klo khi kp kl kr a
  rw [N1] at u1
  have u2 := inow_any ka klo khi kp kl kr b
  rw [M1] at u2
  unfold V3 at u1 u2
  dsimp only at u1 u2
  have U1 := Lib.hid u1; have U2 := Lib.hid u2; have HN1 := Lib.hid N1; have HN2 := Lib.hid N2; have HM1 := Lib.hid M1; have HM2 := Lib.hid M2; have HM7 := Lib.hid M7; have Hel := Lib.hid hel; have Heh := Lib.hid heh; have Ha := Lib.hid ha; have Hb := Lib.hid hb; clear u1 u2 N1 N2 M1 M2 M7 hel heh ha hb
  go_wp2_with fail
  go_quiet ((go_at_call 28; (with_reducible exact Calls.quiet_of_same (R1.out _))))
  go_wp2_with fail
  refine (R2.out _).mono ?_
  rintro e wq1 ⟨rfl, rfl⟩
  go_wp2_with fail
  refine (U1.out _).mono ?_
  rintro e w3 ⟨rfl, hb3⟩
  have K3 : Below w.heap.size w w3 := kept_call hb3 (by (repeat' (first | (with_reducible exact K2) | (with_reducible refine Below.setCell ?_ ?_ _) | (with_reducible refine Below.alloc ?_ ?_ _) | (with_reducible refine Below.drew ?_) | (with_reducible refine below_drewN ?_ _))) <;> (first | omega | (simp <;> omega)))
  have Z3 : w.heap.size ≤ w3.heap.size := K3.size
  have b3_0 := Blk.keep (g := w2.heap.size) hb3 (by (repeat' (first | ((with_reducible refine' Blk.newE ?_); first | rfl | (simp; done)) | (with_reducible refine' Blk.alloc ?_ _) | (with_reducible refine' Blk.drew ?_) | (with_reducible refine' Blk.drewN ?_ _) | (with_reducible refine' Blk.put ?_ ?_) | (with_reducible refine' Blk.far ?_ ?_ _) | exact rfl)) <;> (first | omega | (simp <;> omega)))
  (try simp only [List.setIfInBounds_toArray, List.set_cons_zero, List.set_cons_succ] at b3_0)
  have ht3 := TapeAt.below (by (repeat' (first | (with_reducible exact HT.out) | (with_reducible refine' TapeAt.alloc ?_ _) | (with_reducible refine' TapeAt.drew ?_) | (with_reducible refine' TapeAt.drewN ?_ _) | (with_reducible refine' TapeAt.set ?_ ?_ _))) <;> (first | omega | (simp <;> omega))) hb3
  clear HT; have T3 := ht3.lt; have HT := Lib.hid ht3; clear ht3
  clear hb3 K2
  obtain ⟨c3_0, f3_0, l3_0, e3_0, k3_0⟩ := Blk.facts b3_0
  have o3_0 := l3_0
  go_wp2_with fail
  refine (U2.out _).mono ?_
  rintro e w4 ⟨rfl, hb4⟩
  have K4 : Below w.heap.size w w4 := kept_call hb4 (by (repeat' (first | (with_reducible exact K3) | (with_reducible refine Below.setCell ?_ ?_ _) | (with_reducible refine Below.alloc ?_ ?_ _) | (with_reducible refine Below.drew ?_) | (with_reducible refine below_drewN ?_ _))) <;> (first | omega | (simp <;> omega)))
  have Z4 : w.heap.size ≤ w4.heap.size := K4.size
  have b3_0' := Blk.keep (g := w2.heap.size) hb4 (by (repeat' (first | (with_reducible refine' Blk.alloc ?_ _) | (with_reducible refine' Blk.drew ?_) | (with_reducible refine' Blk.drewN ?_ _) | (with_reducible refine' Blk.put ?_ ?_) | (with_reducible refine' Blk.far ?_ ?_ _) | exact b3_0 | exact rfl)) <;> (first | omega | (simp <;> omega)))
  (try simp only [List.setIfInBounds_toArray, List.set_cons_zero, List.set_cons_succ] at b3_0')
  have b4_0 := Blk.keep (g := w3.heap.size) hb4 (by (repeat' (first | ((with_reducible refine' Blk.newE ?_); first | rfl | (simp; done)) | (with_reducible refine' Blk.alloc ?_ _) | (with_reducible refine' Blk.drew ?_) | (with_reducible refine' Blk.drewN ?_ _) | (with_reducible refine' Blk.put ?_ ?_) | (with_reducible refine' Blk.far ?_ ?_ _) | exact rfl)) <;> (first | omega | (simp <;> omega)))
  (try simp only [List.setIfInBounds_toArray, List.set_cons_zero, List.set_cons_succ] at b4_0)
  have ht4 := TapeAt.below (by (repeat' (first | (with_reducible exact HT.out) | (with_reducible refine' TapeAt.alloc ?_ _) | (with_reducible refine' TapeAt.drew ?_) | (with_reducible refine' TapeAt.drewN ?_ _) | (with_reducible refine' TapeAt.set ?_ ?_ _))) <;> (first | omega | (simp <;> omega))) hb4
  clear HT; have T4 := ht4.lt; have HT := Lib.hid ht4; clear ht4
  clear hb4 K3
  clear b3_0 c3_0 f3_0 l3_0 e3_0 k3_0; have b3_0 := b3_0'; clear b3_0'
  obtain ⟨c3_0, f3_0, l3_0, e3_0, k3_0⟩ := Blk.facts b3_0
  obtain ⟨c4_0, f4_0, l4_0, e4_0, k4_0⟩ := Blk.facts b4_0
  have o4_0 := l4_0
  clear s1 s2
  go_wp2_with fail
  refine wp_region_calm (by kernel_rfl) (fun n us w' => TapeAt w' w.heap.size ∧ Past [w.heap.size] (w4.alloc (.cells #[.int .i64 y1, .int .i64 y2] 23)) w' ∧ NewC (w4.heap.size + 1) 25 #[.int .i64 0, .int .i64 0, .int .i64 0, .int .i64 0, .int .i64 0, .int .i64 0] n us w') (AnyW) [(Is (.agg #[.int .i64 ka, .int .i64 klo, .int .i64 khi, .int .i64 kp, .int .i64 kl, .int .i64 kr])), (Is (.int .i64 a)), (Is (.pointer (some ⟨w.heap.size, 0, none⟩))), (Pure fun _ v => SpanW 5000 v), (Pure fun _ v => ∃ c d : Int, v = (lrn ka klo khi kp kl kr a c d).V ∧ -5000 ≤ c ∧ c ≤ 5000 ∧ c ≤ d ∧ d ≤ c + 5000), (Pure fun ds v => some v = ds[0]?), (Pure fun ds v => ∃ x y z, some (.tuple #[x, y, z]) = ds[0]? ∧ v = x), (Pure fun ds v => ∃ x y z, some (.tuple #[x, y, z]) = ds[0]? ∧ v = y), (Pure fun ds v => ∃ x y z, some (.tuple #[x, y, z]) = ds[0]? ∧ v = z), (fun _ _ _ => True), (fun _ _ _ => True), (Pure fun ds v => some v = ds[0]?), (Pure fun ds v => some v = ds[0]?)] [[], [], [], [2], [0, 1, 3], [4], [5, 4], [5, 4], [5, 4], [], [6, 9, 5, 4], [7], [8]] [9, 10] [9, 6] rfl (by kernel_rfl) (fun u => by (simp only [calmPut, Act.put, List.setIfInBounds_toArray, List.set_cons_zero, List.set_cons_succ, Nat.zero_add, Nat.reduceAdd]; rfl)) ?_ (calmKeep_cons keep_is' (calmKeep_cons keep_is' (calmKeep_cons keep_is' (calmKeep_cons keep_pure (calmKeep_cons keep_pure (calmKeep_cons keep_pure (calmKeep_cons keep_pure (calmKeep_cons keep_pure (calmKeep_cons keep_pure (calmKeep_cons keep_triv (calmKeep_cons keep_triv (calmKeep_cons keep_pure (calmKeep_cons keep_pure (calmKeep_nil)))))))))))))) ?_ ?_
  · intro _
    refine ⟨(by (repeat' (first | (with_reducible exact HT.out) | (with_reducible refine' TapeAt.alloc ?_ _) | (with_reducible refine' TapeAt.drew ?_) | (with_reducible refine' TapeAt.drewN ?_ _) | (with_reducible refine' TapeAt.set ?_ ?_ _))) <;> (first | omega | (simp <;> omega))), (Past.refl _ _).drew, .inl rfl⟩
  · skip
    refine calmSteps_cons (fun u wq n hn hn2 hC hk K hK => ?_) ?_
    · obtain ⟨hT, hP, hN⟩ := hC
      clear hk
      have cK := (Past.blkG hP (show Blk _ (w2.heap.size) 25 #[.int .i64 ka, .int .i64 klo, .int .i64 khi, .int .i64 kp, .int .i64 kl, .int .i64 kr] from by (repeat' (first | (with_reducible refine' Blk.alloc ?_ _) | (with_reducible refine' Blk.drew ?_) | (with_reducible refine' Blk.drewN ?_ _) | (with_reducible refine' Blk.put ?_ ?_) | (with_reducible refine' Blk.far ?_ ?_ _) | exact b3_0 | exact rfl)) <;> (first | omega | (simp <;> omega))) (by first | omega | (simp <;> omega))).cell
      have HT := Lib.hid hT; have HP := Lib.hid hP; clear hT hP
      go_simp
      exact hK _ _ _ rfl ⟨HT.out, HP.out, hN⟩ trivial rfl
    refine calmSteps_cons (fun u wq n hn hn2 hC hk K hK => ?_) ?_
    · obtain ⟨hT, hP, hN⟩ := hC
      clear hk
      have HT := Lib.hid hT; have HP := Lib.hid hP; clear hT hP
      go_simp
      exact hK _ _ _ rfl ⟨HT.out, HP.out, hN⟩ trivial rfl
    refine calmSteps_cons (fun u wq n hn hn2 hC hk K hK => ?_) ?_
    · obtain ⟨hT, hP, hN⟩ := hC
      clear hk
      have HT := Lib.hid hT; have HP := Lib.hid hP; clear hT hP
      go_simp
      exact hK _ _ _ rfl ⟨HT.out, HP.out, hN⟩ trivial rfl
    refine calmSteps_cons (fun u wq n hn hn2 hC hk K hK => ?_) ?_
    · obtain ⟨hT, hP, hN⟩ := hC
      simp only [calmKnown, List.getElem?_cons_zero, List.getElem?_cons_succ, and_true, Is, Pure, Option.some.injEq, List.getD_cons_zero, List.getD_cons_succ, List.map_cons, List.map_nil] at hk
      have h2 := hk; clear hk
      simp only [h2] at hK ⊢
      have H2 := Lib.hid h2; clear h2
      have HT := Lib.hid hT; have HP := Lib.hid hP; clear hT hP
      go_wp2_with fail
      refine (tspan_any _ 5000 _ HT.out (by omega) (by omega)).mono ?_
      rintro e w2 ⟨c, d, rfl, y1, y2, y3, y4, ht, hgr⟩
      have hq := Past.grown (X := [w.heap.size]) hgr (by simp)
      exact hK _ _ _ rfl ⟨ht, HP.out.trans hq, hN.keep hq (by first | omega | (simp <;> omega))⟩ trivial ⟨c, d, rfl, y1, y2, y3, y4⟩
    refine calmSteps_cons (fun u wq n hn hn2 hC hk K hK => ?_) ?_
    · obtain ⟨hT, hP, hN⟩ := hC
      simp only [calmKnown, List.getElem?_cons_zero, List.getElem?_cons_succ, and_true, Is, Pure, Option.some.injEq, List.getD_cons_zero, List.getD_cons_succ, List.map_cons, List.map_nil] at hk
      obtain ⟨h0, h1, ⟨c, d, h3, y1, y2, y3, y4⟩⟩ := hk
      simp only [h0, h1, h3] at hK ⊢
      have H0 := Lib.hid h0; clear h0; have H1 := Lib.hid h1; clear h1; have H3 := Lib.hid h3; clear h3
      have HT := Lib.hid hT; have HP := Lib.hid hP; clear hT hP
      go_wp2_with fail
      refine (ilearn_any ka klo khi kp kl kr a c d _).mono ?_
      rintro e w2 ⟨rfl, hbl⟩
      have hq := Past.below (X := [w.heap.size]) hbl
      exact hK _ _ _ rfl ⟨HT.out.below hbl, HP.out.trans hq, hN.keep hq (by first | omega | (simp <;> omega))⟩ trivial ⟨c, d, rfl, y1, y2, y3, y4⟩
    refine calmSteps_cons (fun u wq n hn hn2 hC hk K hK => ?_) ?_
    · obtain ⟨hT, hP, hN⟩ := hC
      simp only [calmKnown, List.getElem?_cons_zero, List.getElem?_cons_succ, and_true, Is, Pure, Option.some.injEq, List.getD_cons_zero, List.getD_cons_succ, List.map_cons, List.map_nil] at hk
      obtain ⟨c, d, h4, y1, y2, y3, y4⟩ := hk
      simp only [h4] at hK ⊢
      have H4 := Lib.hid h4; clear h4
      have HT := Lib.hid hT; have HP := Lib.hid hP; clear hT hP
      go_simp
      exact hK _ _ _ rfl ⟨HT.out, HP.out, hN⟩ trivial (by show some _ = some (u 4); rw [H4.out])
    refine calmSteps_cons (fun u wq n hn hn2 hC hk K hK => ?_) ?_
    · obtain ⟨hT, hP, hN⟩ := hC
      simp only [calmKnown, List.getElem?_cons_zero, List.getElem?_cons_succ, and_true, Is, Pure, Option.some.injEq, List.getD_cons_zero, List.getD_cons_succ, List.map_cons, List.map_nil] at hk
      obtain ⟨h5, ⟨c, d, h4, y1, y2, y3, y4⟩⟩ := hk
      simp only [h5, h4] at hK ⊢
      have H5 := Lib.hid h5; clear h5; have H4 := Lib.hid h4; clear h4
      have hn1 := hn2 1 10 rfl (by kernel_rfl)
      have HT := Lib.hid hT; have HP := Lib.hid hP; clear hT hP
      have e : u 5 = _ := H5.out.trans H4.out
      have HE := Lib.hid e; clear e
      unfold Lrn.V V6 at hK ⊢
      go_simp
      exact hK _ _ _ rfl ⟨HT.out, HP.out, NewC.val (show NewC _ _ _ n [u 9, u 6] wq from hN) hn1⟩ trivial ⟨_, _, _, by show some _ = some (u 5); rw [HE.out]; rfl, rfl⟩
    refine calmSteps_cons (fun u wq n hn hn2 hC hk K hK => ?_) ?_
    · obtain ⟨hT, hP, hN⟩ := hC
      simp only [calmKnown, List.getElem?_cons_zero, List.getElem?_cons_succ, and_true, Is, Pure, Option.some.injEq, List.getD_cons_zero, List.getD_cons_succ, List.map_cons, List.map_nil] at hk
      obtain ⟨h5, ⟨c, d, h4, y1, y2, y3, y4⟩⟩ := hk
      simp only [h5, h4] at hK ⊢
      have H5 := Lib.hid h5; clear h5; have H4 := Lib.hid h4; clear h4
      have HT := Lib.hid hT; have HP := Lib.hid hP; clear hT hP
      have e : u 5 = _ := H5.out.trans H4.out
      have HE := Lib.hid e; clear e
      unfold Lrn.V V6 at hK ⊢
      go_simp
      exact hK _ _ _ rfl ⟨HT.out, HP.out, hN⟩ trivial ⟨_, _, _, by show some _ = some (u 5); rw [HE.out]; rfl, rfl⟩
    refine calmSteps_cons (fun u wq n hn hn2 hC hk K hK => ?_) ?_
    · obtain ⟨hT, hP, hN⟩ := hC
      simp only [calmKnown, List.getElem?_cons_zero, List.getElem?_cons_succ, and_true, Is, Pure, Option.some.injEq, List.getD_cons_zero, List.getD_cons_succ, List.map_cons, List.map_nil] at hk
      obtain ⟨h5, ⟨c, d, h4, y1, y2, y3, y4⟩⟩ := hk
      simp only [h5, h4] at hK ⊢
      have H5 := Lib.hid h5; clear h5; have H4 := Lib.hid h4; clear h4
      have HT := Lib.hid hT; have HP := Lib.hid hP; clear hT hP
      have e : u 5 = _ := H5.out.trans H4.out
      have HE := Lib.hid e; clear e
      unfold Lrn.V V6 at hK ⊢
      go_simp
      exact hK _ _ _ rfl ⟨HT.out, HP.out, hN⟩ trivial ⟨_, _, _, by show some _ = some (u 5); rw [HE.out]; rfl, rfl⟩
    refine calmSteps_cons (fun u wq n hn hn2 hC hk K hK => ?_) ?_
    · obtain ⟨hT, hP, hN⟩ := hC
      clear hk
      obtain rfl := hn 0 rfl
      have HT := Lib.hid hT; have HP := Lib.hid hP; clear hT hP
      go_simp
      exact hK _ _ _ rfl ⟨HT.out.alloc _, HP.out.trans (Past.alloc _ _ _), NewC.made (x := u 6) (by have := HP.out.1; simpa using this)⟩ trivial trivial
    refine calmSteps_cons (fun u wq n hn hn2 hC hk K hK => ?_) ?_
    · obtain ⟨hT, hP, hN⟩ := hC
      simp only [calmKnown, List.getElem?_cons_zero, List.getElem?_cons_succ, and_true, Is, Pure, Option.some.injEq, List.getD_cons_zero, List.getD_cons_succ, List.map_cons, List.map_nil] at hk
      obtain ⟨⟨x, y, z, e6, h6⟩, -, h5, ⟨c, d, h4, y1, y2, y3, y4⟩⟩ := hk
      simp only [h6, h5, h4] at hK ⊢
      have H6 := Lib.hid h6; clear h6; have H5 := Lib.hid h5; clear h5; have H4 := Lib.hid h4; clear h4
      obtain rfl := hn 1 rfl
      have e := e6.trans (H5.out.trans H4.out)
      unfold Lrn.V V6 at e
      have e2 : x = .agg #[.int .i64 (lrn ka klo khi kp kl kr a c d).at_, .int .i64 (lrn ka klo khi kp kl kr a c d).lo, .int .i64 (lrn ka klo khi kp kl kr a c d).hi, .int .i64 (lrn ka klo khi kp kl kr a c d).ppb, .int .i64 (lrn ka klo khi kp kl kr a c d).le, .int .i64 (lrn ka klo khi kp kl kr a c d).re] := by (injection e with e; have e3 := congrArg (fun l : Array Value => l[0]?) e; simpa using e3)
      subst e2
      clear e e6
      obtain ⟨g, h9, gb, gl, hB⟩ := NewC.one (show NewC _ _ _ 1 [u 9, u 6] wq from hN)
      simp only [h9] at hK ⊢
      have H9 := Lib.hid h9; clear h9 hN
      have gT : w.heap.size < g := by omega
      have HT := Lib.hid hT; have HP := Lib.hid hP; clear hT hP
      have hf := hB.frozen
      have hc := hB.cell
      go_simp
      have gW : w4.heap.size + 1 ≤ g := gb
      have hB2 := ((((((hB.set_ 0 (.int .i64 (lrn ka klo khi kp kl kr a c d).at_)).set_ 1 (.int .i64 (lrn ka klo khi kp kl kr a c d).lo)).set_ 2 (.int .i64 (lrn ka klo khi kp kl kr a c d).hi)).set_ 3 (.int .i64 (lrn ka klo khi kp kl kr a c d).ppb)).set_ 4 (.int .i64 (lrn ka klo khi kp kl kr a c d).le)).set_ 5 (.int .i64 (lrn ka klo khi kp kl kr a c d).re))
      exact hK _ undef _ rfl ⟨((((((HT.out.set (by exact gT) _).set (by exact gT) _).set (by exact gT) _).set (by exact gT) _).set (by exact gT) _).set (by exact gT) _), (Past.far (Past.far (Past.far (Past.far (Past.far (Past.far HP.out (by simpa using gW) _) (by simpa using gW) _) (by simpa using gW) _) (by simpa using gW) _) (by simpa using gW) _) (by simpa using gW) _), (show NewC _ _ _ 2 [u 9, u 6] _ from by rw [H9.out, H6.out]; exact NewC.stored gb hB2)⟩ trivial trivial
    refine calmSteps_cons (fun u wq n hn hn2 hC hk K hK => ?_) ?_
    · obtain ⟨hT, hP, hN⟩ := hC
      simp only [calmKnown, List.getElem?_cons_zero, List.getElem?_cons_succ, and_true, Is, Pure, Option.some.injEq, List.getD_cons_zero, List.getD_cons_succ, List.map_cons, List.map_nil] at hk
      obtain ⟨x, y, z, e6, h7⟩ := hk
      simp only [h7] at hK ⊢
      have H7 := Lib.hid h7; clear h7
      have HT := Lib.hid hT; have HP := Lib.hid hP; clear hT hP
      go_simp
      exact hK _ _ _ rfl ⟨HT.out, HP.out, hN⟩ trivial (by show some _ = some (u 7); rw [H7.out])
    refine calmSteps_cons (fun u wq n hn hn2 hC hk K hK => ?_) ?_
    · obtain ⟨hT, hP, hN⟩ := hC
      simp only [calmKnown, List.getElem?_cons_zero, List.getElem?_cons_succ, and_true, Is, Pure, Option.some.injEq, List.getD_cons_zero, List.getD_cons_succ, List.map_cons, List.map_nil] at hk
      obtain ⟨x, y, z, e6, h8⟩ := hk
      simp only [h8] at hK ⊢
      have H8 := Lib.hid h8; clear h8
      have HT := Lib.hid hT; have HP := Lib.hid hP; clear hT hP
      go_simp
      exact hK _ _ _ rfl ⟨HT.out, HP.out, hN⟩ trivial (by show some _ = some (u 8); rw [H8.out])
    exact calmSteps_nil
  · intro u w5 hC hF
    obtain ⟨ht5, hP, hN⟩ := hC
    obtain ⟨g, cs5, g9, gb, g6, hB⟩ := NewC.last (show NewC _ _ _ 2 [u 9, u 6] w5 from hN)
    simp only [calmFacts, Pure, Is, List.map_cons, List.map_nil, List.getElem?_cons_zero, Option.some.injEq, and_true, true_and] at hF
    obtain ⟨-, -, -, -, ⟨c, d, h4, d1, d2, d3, d4⟩, h5, ⟨x6, y6, z6, e6, h6⟩, ⟨x7, y7, z7, e7, h7⟩, ⟨x8, y8, z8, e8, h8⟩, h11, h12⟩ := hF
    have hs : vS c d = true := vS_true.2 ⟨by omega, by omega, by omega⟩
    rw [h5, h4] at e6 e7 e8
    clear hN h5 h4
    unfold Lrn.V V6 at e6 e7 e8
    rw [g6] at h6
    rw [h7] at h11
    rw [h8] at h12
    clear g6 h7 h8
    simp only [Value.tuple.injEq, List.toArray_inj, Array.mk.injEq, List.cons.injEq, and_true] at e6 e7 e8
    obtain ⟨e6, -, -⟩ := e6
    obtain ⟨-, e7, -⟩ := e7
    obtain ⟨-, -, e8⟩ := e8
    rw [e6] at h6
    rw [e7] at h11
    rw [e8] at h12
    clear e6 e7 e8
    obtain rfl : cs5 = _ := by injection h6
    clear h6
    simp only [g9, h11, h12]
    clear g9 h11 h12
    have K5 : Below w.heap.size w w5 := Past.below' (by (repeat' (first | (with_reducible exact K4) | (with_reducible refine Below.setCell ?_ ?_ _) | (with_reducible refine Below.alloc ?_ ?_ _) | (with_reducible refine Below.drew ?_) | (with_reducible refine below_drewN ?_ _))) <;> (first | omega | (simp <;> omega))) hP (by first | omega | (simp <;> omega))
    have Z5 : w.heap.size ≤ w5.heap.size := K5.size
    have b3_0' := Past.blkG (g := w2.heap.size) hP (by (repeat' (first | (with_reducible refine' Blk.alloc ?_ _) | (with_reducible refine' Blk.drew ?_) | (with_reducible refine' Blk.drewN ?_ _) | (with_reducible refine' Blk.put ?_ ?_) | (with_reducible refine' Blk.far ?_ ?_ _) | exact b3_0 | exact rfl)) <;> (first | omega | (simp <;> omega))) (by first | omega | (simp <;> omega))
    (try simp only [List.setIfInBounds_toArray, List.set_cons_zero, List.set_cons_succ] at b3_0')
    have b4_0' := Past.blkG (g := w3.heap.size) hP (by (repeat' (first | (with_reducible refine' Blk.alloc ?_ _) | (with_reducible refine' Blk.drew ?_) | (with_reducible refine' Blk.drewN ?_ _) | (with_reducible refine' Blk.put ?_ ?_) | (with_reducible refine' Blk.far ?_ ?_ _) | exact b4_0 | exact rfl)) <;> (first | omega | (simp <;> omega))) (by first | omega | (simp <;> omega))
    (try simp only [List.setIfInBounds_toArray, List.set_cons_zero, List.set_cons_succ] at b4_0')
    have b5_0 := Past.blkG (g := w4.heap.size) hP (by (repeat' (first | ((with_reducible refine' Blk.newE ?_); first | rfl | (simp; done)) | (with_reducible refine' Blk.alloc ?_ _) | (with_reducible refine' Blk.drew ?_) | (with_reducible refine' Blk.drewN ?_ _) | (with_reducible refine' Blk.put ?_ ?_) | (with_reducible refine' Blk.far ?_ ?_ _) | exact rfl)) <;> (first | omega | (simp <;> omega))) (by first | omega | (simp <;> omega))
    (try simp only [List.setIfInBounds_toArray, List.set_cons_zero, List.set_cons_succ] at b5_0)
    clear HT; have T5 := ht5.lt; have HT := Lib.hid ht5; clear ht5
    clear hP K4
    clear b3_0 c3_0 f3_0 l3_0 e3_0 k3_0; have b3_0 := b3_0'; clear b3_0'
    clear b4_0 c4_0 f4_0 l4_0 e4_0 k4_0; have b4_0 := b4_0'; clear b4_0'
    obtain ⟨c3_0, f3_0, l3_0, e3_0, k3_0⟩ := Blk.facts b3_0
    obtain ⟨c4_0, f4_0, l4_0, e4_0, k4_0⟩ := Blk.facts b4_0
    obtain ⟨c5_0, f5_0, l5_0, e5_0, k5_0⟩ := Blk.facts b5_0
    have o5_0 := l5_0
    have bN := hB; clear hB
    have hs2 := Lib.hid hs; clear hs
    rcases hm : mtB x1 x2 c d
    · rw [lrn_no HN1.out hs2.out hm, show min (kr + 1) 1152921504606846976 = kr + 1 by omega] at bN ⊢
      dsimp only at bN ⊢
      have u3 := inow_any ka klo khi kp kl (kr + 1) b
      rw [HM7.out] at u3
      have u4 := rbegin_any a x1 x2 kp
      rw [begV_ok (show kE a x1 x2 kp 0 0 = 0 from kE_0 HN2.out (vT_true.2 ⟨by omega, by omega⟩) (by omega) (by omega) rfl rfl)] at u4
      have u5 := inow_any a x1 x2 kp 0 0 b
      have N9 := now_near (P := kp) (u := b) (ka := a) (klo := x1) (khi := x2) (le := 0) (re := 0) (by omega) (by omega) (by omega) (by omega) (by omega) (by omega) (by omega) (by omega) (by omega) (by omega) (by omega) (by omega)
      rw [Hel.out, Heh.out] at N9
      rw [N9.1] at u5
      have u6 := rinside_all y1 y2 (x1 + el) (x2 + eh)
      rw [show insB y1 y2 (x1 + el) (x2 + eh) = true by simp only [insB, HM2.out, N9.2.1, Bool.true_and, Bool.and_eq_true, decide_eq_true_eq]; omega] at u6
      clear N9
      generalize x1 + el = wl at *
      generalize x2 + eh = wh at *
      unfold V3 at u3 u5
      dsimp only at u3 u5
      have U3 := Lib.hid u3; have U4 := Lib.hid u4; have U5 := Lib.hid u5; have U6 := Lib.hid u6; clear u3 u4 u5 u6 hm
      obtain ⟨cN, fN, lN, eN, kN⟩ := Blk.facts bN
      go_wp2_with fail
      refine (U3.out _).mono ?_
      rintro e w6 ⟨rfl, hb6⟩
      have K6 : Below w.heap.size w w6 := kept_call hb6 (by (repeat' (first | (with_reducible exact K5) | (with_reducible refine Below.setCell ?_ ?_ _) | (with_reducible refine Below.alloc ?_ ?_ _) | (with_reducible refine Below.drew ?_) | (with_reducible refine below_drewN ?_ _))) <;> (first | omega | (simp <;> omega)))
      have Z6 : w.heap.size ≤ w6.heap.size := K6.size
      have b3_0' := Blk.keep (g := w2.heap.size) hb6 (by (repeat' (first | (with_reducible refine' Blk.alloc ?_ _) | (with_reducible refine' Blk.drew ?_) | (with_reducible refine' Blk.drewN ?_ _) | (with_reducible refine' Blk.put ?_ ?_) | (with_reducible refine' Blk.far ?_ ?_ _) | exact b3_0 | exact rfl)) <;> (first | omega | (simp <;> omega)))
      (try simp only [List.setIfInBounds_toArray, List.set_cons_zero, List.set_cons_succ] at b3_0')
      have b4_0' := Blk.keep (g := w3.heap.size) hb6 (by (repeat' (first | (with_reducible refine' Blk.alloc ?_ _) | (with_reducible refine' Blk.drew ?_) | (with_reducible refine' Blk.drewN ?_ _) | (with_reducible refine' Blk.put ?_ ?_) | (with_reducible refine' Blk.far ?_ ?_ _) | exact b4_0 | exact rfl)) <;> (first | omega | (simp <;> omega)))
      (try simp only [List.setIfInBounds_toArray, List.set_cons_zero, List.set_cons_succ] at b4_0')
      have b5_0' := Blk.keep (g := w4.heap.size) hb6 (by (repeat' (first | (with_reducible refine' Blk.alloc ?_ _) | (with_reducible refine' Blk.drew ?_) | (with_reducible refine' Blk.drewN ?_ _) | (with_reducible refine' Blk.put ?_ ?_) | (with_reducible refine' Blk.far ?_ ?_ _) | exact b5_0 | exact rfl)) <;> (first | omega | (simp <;> omega)))
      (try simp only [List.setIfInBounds_toArray, List.set_cons_zero, List.set_cons_succ] at b5_0')
      have bN' := Blk.keep (g := g) hb6 (by (repeat' (first | (with_reducible refine' Blk.alloc ?_ _) | (with_reducible refine' Blk.drew ?_) | (with_reducible refine' Blk.drewN ?_ _) | (with_reducible refine' Blk.put ?_ ?_) | (with_reducible refine' Blk.far ?_ ?_ _) | exact bN | exact rfl)) <;> (first | omega | (simp <;> omega)))
      (try simp only [List.setIfInBounds_toArray, List.set_cons_zero, List.set_cons_succ] at bN')
      have ht6 := TapeAt.below (by (repeat' (first | (with_reducible exact HT.out) | (with_reducible refine' TapeAt.alloc ?_ _) | (with_reducible refine' TapeAt.drew ?_) | (with_reducible refine' TapeAt.drewN ?_ _) | (with_reducible refine' TapeAt.set ?_ ?_ _))) <;> (first | omega | (simp <;> omega))) hb6
      clear HT; have T6 := ht6.lt; have HT := Lib.hid ht6; clear ht6
      clear hb6 K5
      clear b3_0 c3_0 f3_0 l3_0 e3_0 k3_0; have b3_0 := b3_0'; clear b3_0'
      clear b4_0 c4_0 f4_0 l4_0 e4_0 k4_0; have b4_0 := b4_0'; clear b4_0'
      clear b5_0 c5_0 f5_0 l5_0 e5_0 k5_0; have b5_0 := b5_0'; clear b5_0'
      clear bN cN fN lN eN kN; have bN := bN'; clear bN'
      obtain ⟨c3_0, f3_0, l3_0, e3_0, k3_0⟩ := Blk.facts b3_0
      obtain ⟨c4_0, f4_0, l4_0, e4_0, k4_0⟩ := Blk.facts b4_0
      obtain ⟨c5_0, f5_0, l5_0, e5_0, k5_0⟩ := Blk.facts b5_0
      obtain ⟨cN, fN, lN, eN, kN⟩ := Blk.facts bN
      go_wp2_with fail
      refine (U4.out _).mono ?_
      rintro e w7 ⟨rfl, hb7⟩
      have K7 : Below w.heap.size w w7 := kept_call hb7 (by (repeat' (first | (with_reducible exact K6) | (with_reducible refine Below.setCell ?_ ?_ _) | (with_reducible refine Below.alloc ?_ ?_ _) | (with_reducible refine Below.drew ?_) | (with_reducible refine below_drewN ?_ _))) <;> (first | omega | (simp <;> omega)))
      have Z7 : w.heap.size ≤ w7.heap.size := K7.size
      have b3_0' := Blk.keep (g := w2.heap.size) hb7 (by (repeat' (first | (with_reducible refine' Blk.alloc ?_ _) | (with_reducible refine' Blk.drew ?_) | (with_reducible refine' Blk.drewN ?_ _) | (with_reducible refine' Blk.put ?_ ?_) | (with_reducible refine' Blk.far ?_ ?_ _) | exact b3_0 | exact rfl)) <;> (first | omega | (simp <;> omega)))
      (try simp only [List.setIfInBounds_toArray, List.set_cons_zero, List.set_cons_succ] at b3_0')
      have b4_0' := Blk.keep (g := w3.heap.size) hb7 (by (repeat' (first | (with_reducible refine' Blk.alloc ?_ _) | (with_reducible refine' Blk.drew ?_) | (with_reducible refine' Blk.drewN ?_ _) | (with_reducible refine' Blk.put ?_ ?_) | (with_reducible refine' Blk.far ?_ ?_ _) | exact b4_0 | exact rfl)) <;> (first | omega | (simp <;> omega)))
      (try simp only [List.setIfInBounds_toArray, List.set_cons_zero, List.set_cons_succ] at b4_0')
      have b5_0' := Blk.keep (g := w4.heap.size) hb7 (by (repeat' (first | (with_reducible refine' Blk.alloc ?_ _) | (with_reducible refine' Blk.drew ?_) | (with_reducible refine' Blk.drewN ?_ _) | (with_reducible refine' Blk.put ?_ ?_) | (with_reducible refine' Blk.far ?_ ?_ _) | exact b5_0 | exact rfl)) <;> (first | omega | (simp <;> omega)))
      (try simp only [List.setIfInBounds_toArray, List.set_cons_zero, List.set_cons_succ] at b5_0')
      have bN' := Blk.keep (g := g) hb7 (by (repeat' (first | (with_reducible refine' Blk.alloc ?_ _) | (with_reducible refine' Blk.drew ?_) | (with_reducible refine' Blk.drewN ?_ _) | (with_reducible refine' Blk.put ?_ ?_) | (with_reducible refine' Blk.far ?_ ?_ _) | exact bN | exact rfl)) <;> (first | omega | (simp <;> omega)))
      (try simp only [List.setIfInBounds_toArray, List.set_cons_zero, List.set_cons_succ] at bN')
      have b7_0 := Blk.keep (g := w6.heap.size) hb7 (by (repeat' (first | ((with_reducible refine' Blk.newE ?_); first | rfl | (simp; done)) | (with_reducible refine' Blk.alloc ?_ _) | (with_reducible refine' Blk.drew ?_) | (with_reducible refine' Blk.drewN ?_ _) | (with_reducible refine' Blk.put ?_ ?_) | (with_reducible refine' Blk.far ?_ ?_ _) | exact rfl)) <;> (first | omega | (simp <;> omega)))
      (try simp only [List.setIfInBounds_toArray, List.set_cons_zero, List.set_cons_succ] at b7_0)
      have ht7 := TapeAt.below (by (repeat' (first | (with_reducible exact HT.out) | (with_reducible refine' TapeAt.alloc ?_ _) | (with_reducible refine' TapeAt.drew ?_) | (with_reducible refine' TapeAt.drewN ?_ _) | (with_reducible refine' TapeAt.set ?_ ?_ _))) <;> (first | omega | (simp <;> omega))) hb7
      clear HT; have T7 := ht7.lt; have HT := Lib.hid ht7; clear ht7
      clear hb7 K6
      clear b3_0 c3_0 f3_0 l3_0 e3_0 k3_0; have b3_0 := b3_0'; clear b3_0'
      clear b4_0 c4_0 f4_0 l4_0 e4_0 k4_0; have b4_0 := b4_0'; clear b4_0'
      clear b5_0 c5_0 f5_0 l5_0 e5_0 k5_0; have b5_0 := b5_0'; clear b5_0'
      clear bN cN fN lN eN kN; have bN := bN'; clear bN'
      obtain ⟨c3_0, f3_0, l3_0, e3_0, k3_0⟩ := Blk.facts b3_0
      obtain ⟨c4_0, f4_0, l4_0, e4_0, k4_0⟩ := Blk.facts b4_0
      obtain ⟨c5_0, f5_0, l5_0, e5_0, k5_0⟩ := Blk.facts b5_0
      obtain ⟨cN, fN, lN, eN, kN⟩ := Blk.facts bN
      obtain ⟨c7_0, f7_0, l7_0, e7_0, k7_0⟩ := Blk.facts b7_0
      have o7_0 := l7_0
      go_wp2_with fail
      refine (U5.out _).mono ?_
      rintro e w8 ⟨rfl, hb8⟩
      have K8 : Below w.heap.size w w8 := kept_call hb8 (by (repeat' (first | (with_reducible exact K7) | (with_reducible refine Below.setCell ?_ ?_ _) | (with_reducible refine Below.alloc ?_ ?_ _) | (with_reducible refine Below.drew ?_) | (with_reducible refine below_drewN ?_ _))) <;> (first | omega | (simp <;> omega)))
      have Z8 : w.heap.size ≤ w8.heap.size := K8.size
      have b3_0' := Blk.keep (g := w2.heap.size) hb8 (by (repeat' (first | (with_reducible refine' Blk.alloc ?_ _) | (with_reducible refine' Blk.drew ?_) | (with_reducible refine' Blk.drewN ?_ _) | (with_reducible refine' Blk.put ?_ ?_) | (with_reducible refine' Blk.far ?_ ?_ _) | exact b3_0 | exact rfl)) <;> (first | omega | (simp <;> omega)))
      (try simp only [List.setIfInBounds_toArray, List.set_cons_zero, List.set_cons_succ] at b3_0')
      have b4_0' := Blk.keep (g := w3.heap.size) hb8 (by (repeat' (first | (with_reducible refine' Blk.alloc ?_ _) | (with_reducible refine' Blk.drew ?_) | (with_reducible refine' Blk.drewN ?_ _) | (with_reducible refine' Blk.put ?_ ?_) | (with_reducible refine' Blk.far ?_ ?_ _) | exact b4_0 | exact rfl)) <;> (first | omega | (simp <;> omega)))
      (try simp only [List.setIfInBounds_toArray, List.set_cons_zero, List.set_cons_succ] at b4_0')
      have b5_0' := Blk.keep (g := w4.heap.size) hb8 (by (repeat' (first | (with_reducible refine' Blk.alloc ?_ _) | (with_reducible refine' Blk.drew ?_) | (with_reducible refine' Blk.drewN ?_ _) | (with_reducible refine' Blk.put ?_ ?_) | (with_reducible refine' Blk.far ?_ ?_ _) | exact b5_0 | exact rfl)) <;> (first | omega | (simp <;> omega)))
      (try simp only [List.setIfInBounds_toArray, List.set_cons_zero, List.set_cons_succ] at b5_0')
      have bN' := Blk.keep (g := g) hb8 (by (repeat' (first | (with_reducible refine' Blk.alloc ?_ _) | (with_reducible refine' Blk.drew ?_) | (with_reducible refine' Blk.drewN ?_ _) | (with_reducible refine' Blk.put ?_ ?_) | (with_reducible refine' Blk.far ?_ ?_ _) | exact bN | exact rfl)) <;> (first | omega | (simp <;> omega)))
      (try simp only [List.setIfInBounds_toArray, List.set_cons_zero, List.set_cons_succ] at bN')
      have b7_0' := Blk.keep (g := w6.heap.size) hb8 (by (repeat' (first | (with_reducible refine' Blk.alloc ?_ _) | (with_reducible refine' Blk.drew ?_) | (with_reducible refine' Blk.drewN ?_ _) | (with_reducible refine' Blk.put ?_ ?_) | (with_reducible refine' Blk.far ?_ ?_ _) | exact b7_0 | exact rfl)) <;> (first | omega | (simp <;> omega)))
      (try simp only [List.setIfInBounds_toArray, List.set_cons_zero, List.set_cons_succ] at b7_0')
      have b8_0 := Blk.keep (g := w7.heap.size) hb8 (by (repeat' (first | ((with_reducible refine' Blk.newE ?_); first | rfl | (simp; done)) | (with_reducible refine' Blk.alloc ?_ _) | (with_reducible refine' Blk.drew ?_) | (with_reducible refine' Blk.drewN ?_ _) | (with_reducible refine' Blk.put ?_ ?_) | (with_reducible refine' Blk.far ?_ ?_ _) | exact rfl)) <;> (first | omega | (simp <;> omega)))
      (try simp only [List.setIfInBounds_toArray, List.set_cons_zero, List.set_cons_succ] at b8_0)
      have ht8 := TapeAt.below (by (repeat' (first | (with_reducible exact HT.out) | (with_reducible refine' TapeAt.alloc ?_ _) | (with_reducible refine' TapeAt.drew ?_) | (with_reducible refine' TapeAt.drewN ?_ _) | (with_reducible refine' TapeAt.set ?_ ?_ _))) <;> (first | omega | (simp <;> omega))) hb8
      clear HT; have T8 := ht8.lt; have HT := Lib.hid ht8; clear ht8
      clear hb8 K7
      clear b3_0 c3_0 f3_0 l3_0 e3_0 k3_0; have b3_0 := b3_0'; clear b3_0'
      clear b4_0 c4_0 f4_0 l4_0 e4_0 k4_0; have b4_0 := b4_0'; clear b4_0'
      clear b5_0 c5_0 f5_0 l5_0 e5_0 k5_0; have b5_0 := b5_0'; clear b5_0'
      clear bN cN fN lN eN kN; have bN := bN'; clear bN'
      clear b7_0 c7_0 f7_0 l7_0 e7_0 k7_0; have b7_0 := b7_0'; clear b7_0'
      obtain ⟨c3_0, f3_0, l3_0, e3_0, k3_0⟩ := Blk.facts b3_0
      obtain ⟨c4_0, f4_0, l4_0, e4_0, k4_0⟩ := Blk.facts b4_0
      obtain ⟨c5_0, f5_0, l5_0, e5_0, k5_0⟩ := Blk.facts b5_0
      obtain ⟨cN, fN, lN, eN, kN⟩ := Blk.facts bN
      obtain ⟨c7_0, f7_0, l7_0, e7_0, k7_0⟩ := Blk.facts b7_0
      obtain ⟨c8_0, f8_0, l8_0, e8_0, k8_0⟩ := Blk.facts b8_0
      have o8_0 := l8_0
      go_wp2_with fail
      refine (U6.out _).mono ?_
      rintro e w9 ⟨rfl, hb9⟩
      have K9 : Below w.heap.size w w9 := kept_call hb9 (by (repeat' (first | (with_reducible exact K8) | (with_reducible refine Below.setCell ?_ ?_ _) | (with_reducible refine Below.alloc ?_ ?_ _) | (with_reducible refine Below.drew ?_) | (with_reducible refine below_drewN ?_ _))) <;> (first | omega | (simp <;> omega)))
      have Z9 : w.heap.size ≤ w9.heap.size := K9.size
      have b3_0' := Blk.keep (g := w2.heap.size) hb9 (by (repeat' (first | (with_reducible refine' Blk.alloc ?_ _) | (with_reducible refine' Blk.drew ?_) | (with_reducible refine' Blk.drewN ?_ _) | (with_reducible refine' Blk.put ?_ ?_) | (with_reducible refine' Blk.far ?_ ?_ _) | exact b3_0 | exact rfl)) <;> (first | omega | (simp <;> omega)))
      (try simp only [List.setIfInBounds_toArray, List.set_cons_zero, List.set_cons_succ] at b3_0')
      have b4_0' := Blk.keep (g := w3.heap.size) hb9 (by (repeat' (first | (with_reducible refine' Blk.alloc ?_ _) | (with_reducible refine' Blk.drew ?_) | (with_reducible refine' Blk.drewN ?_ _) | (with_reducible refine' Blk.put ?_ ?_) | (with_reducible refine' Blk.far ?_ ?_ _) | exact b4_0 | exact rfl)) <;> (first | omega | (simp <;> omega)))
      (try simp only [List.setIfInBounds_toArray, List.set_cons_zero, List.set_cons_succ] at b4_0')
      have b5_0' := Blk.keep (g := w4.heap.size) hb9 (by (repeat' (first | (with_reducible refine' Blk.alloc ?_ _) | (with_reducible refine' Blk.drew ?_) | (with_reducible refine' Blk.drewN ?_ _) | (with_reducible refine' Blk.put ?_ ?_) | (with_reducible refine' Blk.far ?_ ?_ _) | exact b5_0 | exact rfl)) <;> (first | omega | (simp <;> omega)))
      (try simp only [List.setIfInBounds_toArray, List.set_cons_zero, List.set_cons_succ] at b5_0')
      have bN' := Blk.keep (g := g) hb9 (by (repeat' (first | (with_reducible refine' Blk.alloc ?_ _) | (with_reducible refine' Blk.drew ?_) | (with_reducible refine' Blk.drewN ?_ _) | (with_reducible refine' Blk.put ?_ ?_) | (with_reducible refine' Blk.far ?_ ?_ _) | exact bN | exact rfl)) <;> (first | omega | (simp <;> omega)))
      (try simp only [List.setIfInBounds_toArray, List.set_cons_zero, List.set_cons_succ] at bN')
      have b7_0' := Blk.keep (g := w6.heap.size) hb9 (by (repeat' (first | (with_reducible refine' Blk.alloc ?_ _) | (with_reducible refine' Blk.drew ?_) | (with_reducible refine' Blk.drewN ?_ _) | (with_reducible refine' Blk.put ?_ ?_) | (with_reducible refine' Blk.far ?_ ?_ _) | exact b7_0 | exact rfl)) <;> (first | omega | (simp <;> omega)))
      (try simp only [List.setIfInBounds_toArray, List.set_cons_zero, List.set_cons_succ] at b7_0')
      have b8_0' := Blk.keep (g := w7.heap.size) hb9 (by (repeat' (first | (with_reducible refine' Blk.alloc ?_ _) | (with_reducible refine' Blk.drew ?_) | (with_reducible refine' Blk.drewN ?_ _) | (with_reducible refine' Blk.put ?_ ?_) | (with_reducible refine' Blk.far ?_ ?_ _) | exact b8_0 | exact rfl)) <;> (first | omega | (simp <;> omega)))
      (try simp only [List.setIfInBounds_toArray, List.set_cons_zero, List.set_cons_succ] at b8_0')
      have b9_0 := Blk.keep (g := w8.heap.size) hb9 (by (repeat' (first | ((with_reducible refine' Blk.newE ?_); first | rfl | (simp; done)) | (with_reducible refine' Blk.alloc ?_ _) | (with_reducible refine' Blk.drew ?_) | (with_reducible refine' Blk.drewN ?_ _) | (with_reducible refine' Blk.put ?_ ?_) | (with_reducible refine' Blk.far ?_ ?_ _) | exact rfl)) <;> (first | omega | (simp <;> omega)))
      (try simp only [List.setIfInBounds_toArray, List.set_cons_zero, List.set_cons_succ] at b9_0)
      have ht9 := TapeAt.below (by (repeat' (first | (with_reducible exact HT.out) | (with_reducible refine' TapeAt.alloc ?_ _) | (with_reducible refine' TapeAt.drew ?_) | (with_reducible refine' TapeAt.drewN ?_ _) | (with_reducible refine' TapeAt.set ?_ ?_ _))) <;> (first | omega | (simp <;> omega))) hb9
      clear HT; have T9 := ht9.lt; have HT := Lib.hid ht9; clear ht9
      clear hb9 K8
      clear b3_0 c3_0 f3_0 l3_0 e3_0 k3_0; have b3_0 := b3_0'; clear b3_0'
      clear b4_0 c4_0 f4_0 l4_0 e4_0 k4_0; have b4_0 := b4_0'; clear b4_0'
      clear b5_0 c5_0 f5_0 l5_0 e5_0 k5_0; have b5_0 := b5_0'; clear b5_0'
      clear bN cN fN lN eN kN; have bN := bN'; clear bN'
      clear b7_0 c7_0 f7_0 l7_0 e7_0 k7_0; have b7_0 := b7_0'; clear b7_0'
      clear b8_0 c8_0 f8_0 l8_0 e8_0 k8_0; have b8_0 := b8_0'; clear b8_0'
      obtain ⟨c3_0, f3_0, l3_0, e3_0, k3_0⟩ := Blk.facts b3_0
      obtain ⟨c4_0, f4_0, l4_0, e4_0, k4_0⟩ := Blk.facts b4_0
      obtain ⟨c5_0, f5_0, l5_0, e5_0, k5_0⟩ := Blk.facts b5_0
      obtain ⟨cN, fN, lN, eN, kN⟩ := Blk.facts bN
      obtain ⟨c7_0, f7_0, l7_0, e7_0, k7_0⟩ := Blk.facts b7_0
      obtain ⟨c8_0, f8_0, l8_0, e8_0, k8_0⟩ := Blk.facts b8_0
      obtain ⟨c9_0, f9_0, l9_0, e9_0, k9_0⟩ := Blk.facts b9_0
      have o9_0 := l9_0
      go_wp2_with fail
      refine (known37_any _).mono ?_
      rintro e w10 ⟨rfl, hb10⟩
      have K10 : Below w.heap.size w w10 := kept_call hb10 (by (repeat' (first | (with_reducible exact K9) | (with_reducible refine Below.setCell ?_ ?_ _) | (with_reducible refine Below.alloc ?_ ?_ _) | (with_reducible refine Below.drew ?_) | (with_reducible refine below_drewN ?_ _))) <;> (first | omega | (simp <;> omega)))
      have Z10 : w.heap.size ≤ w10.heap.size := K10.size
      have b3_0' := Blk.keep (g := w2.heap.size) hb10 (by (repeat' (first | (with_reducible refine' Blk.alloc ?_ _) | (with_reducible refine' Blk.drew ?_) | (with_reducible refine' Blk.drewN ?_ _) | (with_reducible refine' Blk.put ?_ ?_) | (with_reducible refine' Blk.far ?_ ?_ _) | exact b3_0 | exact rfl)) <;> (first | omega | (simp <;> omega)))
      (try simp only [List.setIfInBounds_toArray, List.set_cons_zero, List.set_cons_succ] at b3_0')
      have b4_0' := Blk.keep (g := w3.heap.size) hb10 (by (repeat' (first | (with_reducible refine' Blk.alloc ?_ _) | (with_reducible refine' Blk.drew ?_) | (with_reducible refine' Blk.drewN ?_ _) | (with_reducible refine' Blk.put ?_ ?_) | (with_reducible refine' Blk.far ?_ ?_ _) | exact b4_0 | exact rfl)) <;> (first | omega | (simp <;> omega)))
      (try simp only [List.setIfInBounds_toArray, List.set_cons_zero, List.set_cons_succ] at b4_0')
      have b5_0' := Blk.keep (g := w4.heap.size) hb10 (by (repeat' (first | (with_reducible refine' Blk.alloc ?_ _) | (with_reducible refine' Blk.drew ?_) | (with_reducible refine' Blk.drewN ?_ _) | (with_reducible refine' Blk.put ?_ ?_) | (with_reducible refine' Blk.far ?_ ?_ _) | exact b5_0 | exact rfl)) <;> (first | omega | (simp <;> omega)))
      (try simp only [List.setIfInBounds_toArray, List.set_cons_zero, List.set_cons_succ] at b5_0')
      have bN' := Blk.keep (g := g) hb10 (by (repeat' (first | (with_reducible refine' Blk.alloc ?_ _) | (with_reducible refine' Blk.drew ?_) | (with_reducible refine' Blk.drewN ?_ _) | (with_reducible refine' Blk.put ?_ ?_) | (with_reducible refine' Blk.far ?_ ?_ _) | exact bN | exact rfl)) <;> (first | omega | (simp <;> omega)))
      (try simp only [List.setIfInBounds_toArray, List.set_cons_zero, List.set_cons_succ] at bN')
      have b7_0' := Blk.keep (g := w6.heap.size) hb10 (by (repeat' (first | (with_reducible refine' Blk.alloc ?_ _) | (with_reducible refine' Blk.drew ?_) | (with_reducible refine' Blk.drewN ?_ _) | (with_reducible refine' Blk.put ?_ ?_) | (with_reducible refine' Blk.far ?_ ?_ _) | exact b7_0 | exact rfl)) <;> (first | omega | (simp <;> omega)))
      (try simp only [List.setIfInBounds_toArray, List.set_cons_zero, List.set_cons_succ] at b7_0')
      have b8_0' := Blk.keep (g := w7.heap.size) hb10 (by (repeat' (first | (with_reducible refine' Blk.alloc ?_ _) | (with_reducible refine' Blk.drew ?_) | (with_reducible refine' Blk.drewN ?_ _) | (with_reducible refine' Blk.put ?_ ?_) | (with_reducible refine' Blk.far ?_ ?_ _) | exact b8_0 | exact rfl)) <;> (first | omega | (simp <;> omega)))
      (try simp only [List.setIfInBounds_toArray, List.set_cons_zero, List.set_cons_succ] at b8_0')
      have b9_0' := Blk.keep (g := w8.heap.size) hb10 (by (repeat' (first | (with_reducible refine' Blk.alloc ?_ _) | (with_reducible refine' Blk.drew ?_) | (with_reducible refine' Blk.drewN ?_ _) | (with_reducible refine' Blk.put ?_ ?_) | (with_reducible refine' Blk.far ?_ ?_ _) | exact b9_0 | exact rfl)) <;> (first | omega | (simp <;> omega)))
      (try simp only [List.setIfInBounds_toArray, List.set_cons_zero, List.set_cons_succ] at b9_0')
      have ht10 := TapeAt.below (by (repeat' (first | (with_reducible exact HT.out) | (with_reducible refine' TapeAt.alloc ?_ _) | (with_reducible refine' TapeAt.drew ?_) | (with_reducible refine' TapeAt.drewN ?_ _) | (with_reducible refine' TapeAt.set ?_ ?_ _))) <;> (first | omega | (simp <;> omega))) hb10
      clear HT; have T10 := ht10.lt; have HT := Lib.hid ht10; clear ht10
      clear hb10 K9
      clear b3_0 c3_0 f3_0 l3_0 e3_0 k3_0; have b3_0 := b3_0'; clear b3_0'
      clear b4_0 c4_0 f4_0 l4_0 e4_0 k4_0; have b4_0 := b4_0'; clear b4_0'
      clear b5_0 c5_0 f5_0 l5_0 e5_0 k5_0; have b5_0 := b5_0'; clear b5_0'
      clear bN cN fN lN eN kN; have bN := bN'; clear bN'
      clear b7_0 c7_0 f7_0 l7_0 e7_0 k7_0; have b7_0 := b7_0'; clear b7_0'
      clear b8_0 c8_0 f8_0 l8_0 e8_0 k8_0; have b8_0 := b8_0'; clear b8_0'
      clear b9_0 c9_0 f9_0 l9_0 e9_0 k9_0; have b9_0 := b9_0'; clear b9_0'
      obtain ⟨c3_0, f3_0, l3_0, e3_0, k3_0⟩ := Blk.facts b3_0
      obtain ⟨c4_0, f4_0, l4_0, e4_0, k4_0⟩ := Blk.facts b4_0
      obtain ⟨c5_0, f5_0, l5_0, e5_0, k5_0⟩ := Blk.facts b5_0
      obtain ⟨cN, fN, lN, eN, kN⟩ := Blk.facts bN
      obtain ⟨c7_0, f7_0, l7_0, e7_0, k7_0⟩ := Blk.facts b7_0
      obtain ⟨c8_0, f8_0, l8_0, e8_0, k8_0⟩ := Blk.facts b8_0
      obtain ⟨c9_0, f9_0, l9_0, e9_0, k9_0⟩ := Blk.facts b9_0
      go_wp2
      go_ret
      exact ⟨by simp, by (repeat' (first | (with_reducible exact K10) | (with_reducible refine Below.setCell ?_ ?_ _) | (with_reducible refine Below.alloc ?_ ?_ _) | (with_reducible refine Below.drew ?_) | (with_reducible refine below_drewN ?_ _))) <;> (first | omega | (simp <;> omega))⟩
    · rw [lrn_yes HN1.out hs2.out hm, show min (kl + 1) 1152921504606846976 = kl + 1 by omega] at bN ⊢
      dsimp only at bN ⊢
      have hm2 : max x1 c ≤ min x2 d := by simp [mtB, HN2.out, hs2.out] at hm; omega
      have x3 : x1 ≤ max x1 c := by omega
      have x4 : min x2 d ≤ x2 := by omega
      have x5 : max x1 c ≤ 100000 := by omega
      have x6 : -100000 ≤ max x1 c := by omega
      generalize max x1 c = X at *
      generalize min x2 d = Y at *
      have hv : vS X Y = true := vS_true.2 ⟨by omega, by omega, by omega⟩
      have u3 := inow_any a X Y kp (kl + 1) kr b
      have N8 := now_near (P := kp) (u := b) (ka := a) (klo := X) (khi := Y) (le := kl + 1) (re := kr) (by omega) (by omega) (by omega) (by omega) (by omega) (by omega) (by omega) (by omega) (by omega) (by omega) (by omega) (by omega)
      rw [Hel.out, Heh.out] at N8
      rw [N8.1] at u3
      have x7 : x1 ≤ X + el := by omega
      have u7 := rinside_all X Y x1 x2
      rw [show insB X Y x1 x2 = true by simp only [insB, hv, HN2.out, Bool.true_and, Bool.and_eq_true, decide_eq_true_eq]; omega] at u7
      clear N8 hv
      generalize X + el = zl at *
      generalize Y + eh = zh at *
      have U7 := Lib.hid u7; clear u7
      have u4 := rbegin_any a x1 x2 kp
      rw [begV_ok (show kE a x1 x2 kp 0 0 = 0 from kE_0 HN2.out (vT_true.2 ⟨by omega, by omega⟩) (by omega) (by omega) rfl rfl)] at u4
      have u5 := inow_any a x1 x2 kp 0 0 b
      have N9 := now_near (P := kp) (u := b) (ka := a) (klo := x1) (khi := x2) (le := 0) (re := 0) (by omega) (by omega) (by omega) (by omega) (by omega) (by omega) (by omega) (by omega) (by omega) (by omega) (by omega) (by omega)
      rw [Hel.out, Heh.out] at N9
      rw [N9.1] at u5
      have u6 := rinside_all y1 y2 (x1 + el) (x2 + eh)
      rw [show insB y1 y2 (x1 + el) (x2 + eh) = true by simp only [insB, HM2.out, N9.2.1, Bool.true_and, Bool.and_eq_true, decide_eq_true_eq]; omega] at u6
      clear N9
      generalize x1 + el = wl at *
      generalize x2 + eh = wh at *
      unfold V3 at u3 u5
      dsimp only at u3 u5
      have U3 := Lib.hid u3; have U4 := Lib.hid u4; have U5 := Lib.hid u5; have U6 := Lib.hid u6; clear u3 u4 u5 u6 hm
      obtain ⟨cN, fN, lN, eN, kN⟩ := Blk.facts bN
      go_wp2_with fail
      refine (U3.out _).mono ?_
      rintro e w6 ⟨rfl, hb6⟩
      have K6 : Below w.heap.size w w6 := kept_call hb6 (by (repeat' (first | (with_reducible exact K5) | (with_reducible refine Below.setCell ?_ ?_ _) | (with_reducible refine Below.alloc ?_ ?_ _) | (with_reducible refine Below.drew ?_) | (with_reducible refine below_drewN ?_ _))) <;> (first | omega | (simp <;> omega)))
      have Z6 : w.heap.size ≤ w6.heap.size := K6.size
      have b3_0' := Blk.keep (g := w2.heap.size) hb6 (by (repeat' (first | (with_reducible refine' Blk.alloc ?_ _) | (with_reducible refine' Blk.drew ?_) | (with_reducible refine' Blk.drewN ?_ _) | (with_reducible refine' Blk.put ?_ ?_) | (with_reducible refine' Blk.far ?_ ?_ _) | exact b3_0 | exact rfl)) <;> (first | omega | (simp <;> omega)))
      (try simp only [List.setIfInBounds_toArray, List.set_cons_zero, List.set_cons_succ] at b3_0')
      have b4_0' := Blk.keep (g := w3.heap.size) hb6 (by (repeat' (first | (with_reducible refine' Blk.alloc ?_ _) | (with_reducible refine' Blk.drew ?_) | (with_reducible refine' Blk.drewN ?_ _) | (with_reducible refine' Blk.put ?_ ?_) | (with_reducible refine' Blk.far ?_ ?_ _) | exact b4_0 | exact rfl)) <;> (first | omega | (simp <;> omega)))
      (try simp only [List.setIfInBounds_toArray, List.set_cons_zero, List.set_cons_succ] at b4_0')
      have b5_0' := Blk.keep (g := w4.heap.size) hb6 (by (repeat' (first | (with_reducible refine' Blk.alloc ?_ _) | (with_reducible refine' Blk.drew ?_) | (with_reducible refine' Blk.drewN ?_ _) | (with_reducible refine' Blk.put ?_ ?_) | (with_reducible refine' Blk.far ?_ ?_ _) | exact b5_0 | exact rfl)) <;> (first | omega | (simp <;> omega)))
      (try simp only [List.setIfInBounds_toArray, List.set_cons_zero, List.set_cons_succ] at b5_0')
      have bN' := Blk.keep (g := g) hb6 (by (repeat' (first | (with_reducible refine' Blk.alloc ?_ _) | (with_reducible refine' Blk.drew ?_) | (with_reducible refine' Blk.drewN ?_ _) | (with_reducible refine' Blk.put ?_ ?_) | (with_reducible refine' Blk.far ?_ ?_ _) | exact bN | exact rfl)) <;> (first | omega | (simp <;> omega)))
      (try simp only [List.setIfInBounds_toArray, List.set_cons_zero, List.set_cons_succ] at bN')
      have ht6 := TapeAt.below (by (repeat' (first | (with_reducible exact HT.out) | (with_reducible refine' TapeAt.alloc ?_ _) | (with_reducible refine' TapeAt.drew ?_) | (with_reducible refine' TapeAt.drewN ?_ _) | (with_reducible refine' TapeAt.set ?_ ?_ _))) <;> (first | omega | (simp <;> omega))) hb6
      clear HT; have T6 := ht6.lt; have HT := Lib.hid ht6; clear ht6
      clear hb6 K5
      clear b3_0 c3_0 f3_0 l3_0 e3_0 k3_0; have b3_0 := b3_0'; clear b3_0'
      clear b4_0 c4_0 f4_0 l4_0 e4_0 k4_0; have b4_0 := b4_0'; clear b4_0'
      clear b5_0 c5_0 f5_0 l5_0 e5_0 k5_0; have b5_0 := b5_0'; clear b5_0'
      clear bN cN fN lN eN kN; have bN := bN'; clear bN'
      obtain ⟨c3_0, f3_0, l3_0, e3_0, k3_0⟩ := Blk.facts b3_0
      obtain ⟨c4_0, f4_0, l4_0, e4_0, k4_0⟩ := Blk.facts b4_0
      obtain ⟨c5_0, f5_0, l5_0, e5_0, k5_0⟩ := Blk.facts b5_0
      obtain ⟨cN, fN, lN, eN, kN⟩ := Blk.facts bN
      go_wp2_with fail
      refine (U4.out _).mono ?_
      rintro e w7 ⟨rfl, hb7⟩
      have K7 : Below w.heap.size w w7 := kept_call hb7 (by (repeat' (first | (with_reducible exact K6) | (with_reducible refine Below.setCell ?_ ?_ _) | (with_reducible refine Below.alloc ?_ ?_ _) | (with_reducible refine Below.drew ?_) | (with_reducible refine below_drewN ?_ _))) <;> (first | omega | (simp <;> omega)))
      have Z7 : w.heap.size ≤ w7.heap.size := K7.size
      have b3_0' := Blk.keep (g := w2.heap.size) hb7 (by (repeat' (first | (with_reducible refine' Blk.alloc ?_ _) | (with_reducible refine' Blk.drew ?_) | (with_reducible refine' Blk.drewN ?_ _) | (with_reducible refine' Blk.put ?_ ?_) | (with_reducible refine' Blk.far ?_ ?_ _) | exact b3_0 | exact rfl)) <;> (first | omega | (simp <;> omega)))
      (try simp only [List.setIfInBounds_toArray, List.set_cons_zero, List.set_cons_succ] at b3_0')
      have b4_0' := Blk.keep (g := w3.heap.size) hb7 (by (repeat' (first | (with_reducible refine' Blk.alloc ?_ _) | (with_reducible refine' Blk.drew ?_) | (with_reducible refine' Blk.drewN ?_ _) | (with_reducible refine' Blk.put ?_ ?_) | (with_reducible refine' Blk.far ?_ ?_ _) | exact b4_0 | exact rfl)) <;> (first | omega | (simp <;> omega)))
      (try simp only [List.setIfInBounds_toArray, List.set_cons_zero, List.set_cons_succ] at b4_0')
      have b5_0' := Blk.keep (g := w4.heap.size) hb7 (by (repeat' (first | (with_reducible refine' Blk.alloc ?_ _) | (with_reducible refine' Blk.drew ?_) | (with_reducible refine' Blk.drewN ?_ _) | (with_reducible refine' Blk.put ?_ ?_) | (with_reducible refine' Blk.far ?_ ?_ _) | exact b5_0 | exact rfl)) <;> (first | omega | (simp <;> omega)))
      (try simp only [List.setIfInBounds_toArray, List.set_cons_zero, List.set_cons_succ] at b5_0')
      have bN' := Blk.keep (g := g) hb7 (by (repeat' (first | (with_reducible refine' Blk.alloc ?_ _) | (with_reducible refine' Blk.drew ?_) | (with_reducible refine' Blk.drewN ?_ _) | (with_reducible refine' Blk.put ?_ ?_) | (with_reducible refine' Blk.far ?_ ?_ _) | exact bN | exact rfl)) <;> (first | omega | (simp <;> omega)))
      (try simp only [List.setIfInBounds_toArray, List.set_cons_zero, List.set_cons_succ] at bN')
      have b7_0 := Blk.keep (g := w6.heap.size) hb7 (by (repeat' (first | ((with_reducible refine' Blk.newE ?_); first | rfl | (simp; done)) | (with_reducible refine' Blk.alloc ?_ _) | (with_reducible refine' Blk.drew ?_) | (with_reducible refine' Blk.drewN ?_ _) | (with_reducible refine' Blk.put ?_ ?_) | (with_reducible refine' Blk.far ?_ ?_ _) | exact rfl)) <;> (first | omega | (simp <;> omega)))
      (try simp only [List.setIfInBounds_toArray, List.set_cons_zero, List.set_cons_succ] at b7_0)
      have ht7 := TapeAt.below (by (repeat' (first | (with_reducible exact HT.out) | (with_reducible refine' TapeAt.alloc ?_ _) | (with_reducible refine' TapeAt.drew ?_) | (with_reducible refine' TapeAt.drewN ?_ _) | (with_reducible refine' TapeAt.set ?_ ?_ _))) <;> (first | omega | (simp <;> omega))) hb7
      clear HT; have T7 := ht7.lt; have HT := Lib.hid ht7; clear ht7
      clear hb7 K6
      clear b3_0 c3_0 f3_0 l3_0 e3_0 k3_0; have b3_0 := b3_0'; clear b3_0'
      clear b4_0 c4_0 f4_0 l4_0 e4_0 k4_0; have b4_0 := b4_0'; clear b4_0'
      clear b5_0 c5_0 f5_0 l5_0 e5_0 k5_0; have b5_0 := b5_0'; clear b5_0'
      clear bN cN fN lN eN kN; have bN := bN'; clear bN'
      obtain ⟨c3_0, f3_0, l3_0, e3_0, k3_0⟩ := Blk.facts b3_0
      obtain ⟨c4_0, f4_0, l4_0, e4_0, k4_0⟩ := Blk.facts b4_0
      obtain ⟨c5_0, f5_0, l5_0, e5_0, k5_0⟩ := Blk.facts b5_0
      obtain ⟨cN, fN, lN, eN, kN⟩ := Blk.facts bN
      obtain ⟨c7_0, f7_0, l7_0, e7_0, k7_0⟩ := Blk.facts b7_0
      have o7_0 := l7_0
      go_wp2_with fail
      refine (U5.out _).mono ?_
      rintro e w8 ⟨rfl, hb8⟩
      have K8 : Below w.heap.size w w8 := kept_call hb8 (by (repeat' (first | (with_reducible exact K7) | (with_reducible refine Below.setCell ?_ ?_ _) | (with_reducible refine Below.alloc ?_ ?_ _) | (with_reducible refine Below.drew ?_) | (with_reducible refine below_drewN ?_ _))) <;> (first | omega | (simp <;> omega)))
      have Z8 : w.heap.size ≤ w8.heap.size := K8.size
      have b3_0' := Blk.keep (g := w2.heap.size) hb8 (by (repeat' (first | (with_reducible refine' Blk.alloc ?_ _) | (with_reducible refine' Blk.drew ?_) | (with_reducible refine' Blk.drewN ?_ _) | (with_reducible refine' Blk.put ?_ ?_) | (with_reducible refine' Blk.far ?_ ?_ _) | exact b3_0 | exact rfl)) <;> (first | omega | (simp <;> omega)))
      (try simp only [List.setIfInBounds_toArray, List.set_cons_zero, List.set_cons_succ] at b3_0')
      have b4_0' := Blk.keep (g := w3.heap.size) hb8 (by (repeat' (first | (with_reducible refine' Blk.alloc ?_ _) | (with_reducible refine' Blk.drew ?_) | (with_reducible refine' Blk.drewN ?_ _) | (with_reducible refine' Blk.put ?_ ?_) | (with_reducible refine' Blk.far ?_ ?_ _) | exact b4_0 | exact rfl)) <;> (first | omega | (simp <;> omega)))
      (try simp only [List.setIfInBounds_toArray, List.set_cons_zero, List.set_cons_succ] at b4_0')
      have b5_0' := Blk.keep (g := w4.heap.size) hb8 (by (repeat' (first | (with_reducible refine' Blk.alloc ?_ _) | (with_reducible refine' Blk.drew ?_) | (with_reducible refine' Blk.drewN ?_ _) | (with_reducible refine' Blk.put ?_ ?_) | (with_reducible refine' Blk.far ?_ ?_ _) | exact b5_0 | exact rfl)) <;> (first | omega | (simp <;> omega)))
      (try simp only [List.setIfInBounds_toArray, List.set_cons_zero, List.set_cons_succ] at b5_0')
      have bN' := Blk.keep (g := g) hb8 (by (repeat' (first | (with_reducible refine' Blk.alloc ?_ _) | (with_reducible refine' Blk.drew ?_) | (with_reducible refine' Blk.drewN ?_ _) | (with_reducible refine' Blk.put ?_ ?_) | (with_reducible refine' Blk.far ?_ ?_ _) | exact bN | exact rfl)) <;> (first | omega | (simp <;> omega)))
      (try simp only [List.setIfInBounds_toArray, List.set_cons_zero, List.set_cons_succ] at bN')
      have b7_0' := Blk.keep (g := w6.heap.size) hb8 (by (repeat' (first | (with_reducible refine' Blk.alloc ?_ _) | (with_reducible refine' Blk.drew ?_) | (with_reducible refine' Blk.drewN ?_ _) | (with_reducible refine' Blk.put ?_ ?_) | (with_reducible refine' Blk.far ?_ ?_ _) | exact b7_0 | exact rfl)) <;> (first | omega | (simp <;> omega)))
      (try simp only [List.setIfInBounds_toArray, List.set_cons_zero, List.set_cons_succ] at b7_0')
      have b8_0 := Blk.keep (g := w7.heap.size) hb8 (by (repeat' (first | ((with_reducible refine' Blk.newE ?_); first | rfl | (simp; done)) | (with_reducible refine' Blk.alloc ?_ _) | (with_reducible refine' Blk.drew ?_) | (with_reducible refine' Blk.drewN ?_ _) | (with_reducible refine' Blk.put ?_ ?_) | (with_reducible refine' Blk.far ?_ ?_ _) | exact rfl)) <;> (first | omega | (simp <;> omega)))
      (try simp only [List.setIfInBounds_toArray, List.set_cons_zero, List.set_cons_succ] at b8_0)
      have ht8 := TapeAt.below (by (repeat' (first | (with_reducible exact HT.out) | (with_reducible refine' TapeAt.alloc ?_ _) | (with_reducible refine' TapeAt.drew ?_) | (with_reducible refine' TapeAt.drewN ?_ _) | (with_reducible refine' TapeAt.set ?_ ?_ _))) <;> (first | omega | (simp <;> omega))) hb8
      clear HT; have T8 := ht8.lt; have HT := Lib.hid ht8; clear ht8
      clear hb8 K7
      clear b3_0 c3_0 f3_0 l3_0 e3_0 k3_0; have b3_0 := b3_0'; clear b3_0'
      clear b4_0 c4_0 f4_0 l4_0 e4_0 k4_0; have b4_0 := b4_0'; clear b4_0'
      clear b5_0 c5_0 f5_0 l5_0 e5_0 k5_0; have b5_0 := b5_0'; clear b5_0'
      clear bN cN fN lN eN kN; have bN := bN'; clear bN'
      clear b7_0 c7_0 f7_0 l7_0 e7_0 k7_0; have b7_0 := b7_0'; clear b7_0'
      obtain ⟨c3_0, f3_0, l3_0, e3_0, k3_0⟩ := Blk.facts b3_0
      obtain ⟨c4_0, f4_0, l4_0, e4_0, k4_0⟩ := Blk.facts b4_0
      obtain ⟨c5_0, f5_0, l5_0, e5_0, k5_0⟩ := Blk.facts b5_0
      obtain ⟨cN, fN, lN, eN, kN⟩ := Blk.facts bN
      obtain ⟨c7_0, f7_0, l7_0, e7_0, k7_0⟩ := Blk.facts b7_0
      obtain ⟨c8_0, f8_0, l8_0, e8_0, k8_0⟩ := Blk.facts b8_0
      have o8_0 := l8_0
      go_wp2_with fail
      refine (U6.out _).mono ?_
      rintro e w9 ⟨rfl, hb9⟩
      have K9 : Below w.heap.size w w9 := kept_call hb9 (by (repeat' (first | (with_reducible exact K8) | (with_reducible refine Below.setCell ?_ ?_ _) | (with_reducible refine Below.alloc ?_ ?_ _) | (with_reducible refine Below.drew ?_) | (with_reducible refine below_drewN ?_ _))) <;> (first | omega | (simp <;> omega)))
      have Z9 : w.heap.size ≤ w9.heap.size := K9.size
      have b3_0' := Blk.keep (g := w2.heap.size) hb9 (by (repeat' (first | (with_reducible refine' Blk.alloc ?_ _) | (with_reducible refine' Blk.drew ?_) | (with_reducible refine' Blk.drewN ?_ _) | (with_reducible refine' Blk.put ?_ ?_) | (with_reducible refine' Blk.far ?_ ?_ _) | exact b3_0 | exact rfl)) <;> (first | omega | (simp <;> omega)))
      (try simp only [List.setIfInBounds_toArray, List.set_cons_zero, List.set_cons_succ] at b3_0')
      have b4_0' := Blk.keep (g := w3.heap.size) hb9 (by (repeat' (first | (with_reducible refine' Blk.alloc ?_ _) | (with_reducible refine' Blk.drew ?_) | (with_reducible refine' Blk.drewN ?_ _) | (with_reducible refine' Blk.put ?_ ?_) | (with_reducible refine' Blk.far ?_ ?_ _) | exact b4_0 | exact rfl)) <;> (first | omega | (simp <;> omega)))
      (try simp only [List.setIfInBounds_toArray, List.set_cons_zero, List.set_cons_succ] at b4_0')
      have b5_0' := Blk.keep (g := w4.heap.size) hb9 (by (repeat' (first | (with_reducible refine' Blk.alloc ?_ _) | (with_reducible refine' Blk.drew ?_) | (with_reducible refine' Blk.drewN ?_ _) | (with_reducible refine' Blk.put ?_ ?_) | (with_reducible refine' Blk.far ?_ ?_ _) | exact b5_0 | exact rfl)) <;> (first | omega | (simp <;> omega)))
      (try simp only [List.setIfInBounds_toArray, List.set_cons_zero, List.set_cons_succ] at b5_0')
      have bN' := Blk.keep (g := g) hb9 (by (repeat' (first | (with_reducible refine' Blk.alloc ?_ _) | (with_reducible refine' Blk.drew ?_) | (with_reducible refine' Blk.drewN ?_ _) | (with_reducible refine' Blk.put ?_ ?_) | (with_reducible refine' Blk.far ?_ ?_ _) | exact bN | exact rfl)) <;> (first | omega | (simp <;> omega)))
      (try simp only [List.setIfInBounds_toArray, List.set_cons_zero, List.set_cons_succ] at bN')
      have b7_0' := Blk.keep (g := w6.heap.size) hb9 (by (repeat' (first | (with_reducible refine' Blk.alloc ?_ _) | (with_reducible refine' Blk.drew ?_) | (with_reducible refine' Blk.drewN ?_ _) | (with_reducible refine' Blk.put ?_ ?_) | (with_reducible refine' Blk.far ?_ ?_ _) | exact b7_0 | exact rfl)) <;> (first | omega | (simp <;> omega)))
      (try simp only [List.setIfInBounds_toArray, List.set_cons_zero, List.set_cons_succ] at b7_0')
      have b8_0' := Blk.keep (g := w7.heap.size) hb9 (by (repeat' (first | (with_reducible refine' Blk.alloc ?_ _) | (with_reducible refine' Blk.drew ?_) | (with_reducible refine' Blk.drewN ?_ _) | (with_reducible refine' Blk.put ?_ ?_) | (with_reducible refine' Blk.far ?_ ?_ _) | exact b8_0 | exact rfl)) <;> (first | omega | (simp <;> omega)))
      (try simp only [List.setIfInBounds_toArray, List.set_cons_zero, List.set_cons_succ] at b8_0')
      have b9_0 := Blk.keep (g := w8.heap.size) hb9 (by (repeat' (first | ((with_reducible refine' Blk.newE ?_); first | rfl | (simp; done)) | (with_reducible refine' Blk.alloc ?_ _) | (with_reducible refine' Blk.drew ?_) | (with_reducible refine' Blk.drewN ?_ _) | (with_reducible refine' Blk.put ?_ ?_) | (with_reducible refine' Blk.far ?_ ?_ _) | exact rfl)) <;> (first | omega | (simp <;> omega)))
      (try simp only [List.setIfInBounds_toArray, List.set_cons_zero, List.set_cons_succ] at b9_0)
      have ht9 := TapeAt.below (by (repeat' (first | (with_reducible exact HT.out) | (with_reducible refine' TapeAt.alloc ?_ _) | (with_reducible refine' TapeAt.drew ?_) | (with_reducible refine' TapeAt.drewN ?_ _) | (with_reducible refine' TapeAt.set ?_ ?_ _))) <;> (first | omega | (simp <;> omega))) hb9
      clear HT; have T9 := ht9.lt; have HT := Lib.hid ht9; clear ht9
      clear hb9 K8
      clear b3_0 c3_0 f3_0 l3_0 e3_0 k3_0; have b3_0 := b3_0'; clear b3_0'
      clear b4_0 c4_0 f4_0 l4_0 e4_0 k4_0; have b4_0 := b4_0'; clear b4_0'
      clear b5_0 c5_0 f5_0 l5_0 e5_0 k5_0; have b5_0 := b5_0'; clear b5_0'
      clear bN cN fN lN eN kN; have bN := bN'; clear bN'
      clear b7_0 c7_0 f7_0 l7_0 e7_0 k7_0; have b7_0 := b7_0'; clear b7_0'
      clear b8_0 c8_0 f8_0 l8_0 e8_0 k8_0; have b8_0 := b8_0'; clear b8_0'
      obtain ⟨c3_0, f3_0, l3_0, e3_0, k3_0⟩ := Blk.facts b3_0
      obtain ⟨c4_0, f4_0, l4_0, e4_0, k4_0⟩ := Blk.facts b4_0
      obtain ⟨c5_0, f5_0, l5_0, e5_0, k5_0⟩ := Blk.facts b5_0
      obtain ⟨cN, fN, lN, eN, kN⟩ := Blk.facts bN
      obtain ⟨c7_0, f7_0, l7_0, e7_0, k7_0⟩ := Blk.facts b7_0
      obtain ⟨c8_0, f8_0, l8_0, e8_0, k8_0⟩ := Blk.facts b8_0
      obtain ⟨c9_0, f9_0, l9_0, e9_0, k9_0⟩ := Blk.facts b9_0
      have o9_0 := l9_0
      go_wp2_with fail
      refine (known37_any _).mono ?_
      rintro e w10 ⟨rfl, hb10⟩
      have K10 : Below w.heap.size w w10 := kept_call hb10 (by (repeat' (first | (with_reducible exact K9) | (with_reducible refine Below.setCell ?_ ?_ _) | (with_reducible refine Below.alloc ?_ ?_ _) | (with_reducible refine Below.drew ?_) | (with_reducible refine below_drewN ?_ _))) <;> (first | omega | (simp <;> omega)))
      have Z10 : w.heap.size ≤ w10.heap.size := K10.size
      have b3_0' := Blk.keep (g := w2.heap.size) hb10 (by (repeat' (first | (with_reducible refine' Blk.alloc ?_ _) | (with_reducible refine' Blk.drew ?_) | (with_reducible refine' Blk.drewN ?_ _) | (with_reducible refine' Blk.put ?_ ?_) | (with_reducible refine' Blk.far ?_ ?_ _) | exact b3_0 | exact rfl)) <;> (first | omega | (simp <;> omega)))
      (try simp only [List.setIfInBounds_toArray, List.set_cons_zero, List.set_cons_succ] at b3_0')
      have b4_0' := Blk.keep (g := w3.heap.size) hb10 (by (repeat' (first | (with_reducible refine' Blk.alloc ?_ _) | (with_reducible refine' Blk.drew ?_) | (with_reducible refine' Blk.drewN ?_ _) | (with_reducible refine' Blk.put ?_ ?_) | (with_reducible refine' Blk.far ?_ ?_ _) | exact b4_0 | exact rfl)) <;> (first | omega | (simp <;> omega)))
      (try simp only [List.setIfInBounds_toArray, List.set_cons_zero, List.set_cons_succ] at b4_0')
      have b5_0' := Blk.keep (g := w4.heap.size) hb10 (by (repeat' (first | (with_reducible refine' Blk.alloc ?_ _) | (with_reducible refine' Blk.drew ?_) | (with_reducible refine' Blk.drewN ?_ _) | (with_reducible refine' Blk.put ?_ ?_) | (with_reducible refine' Blk.far ?_ ?_ _) | exact b5_0 | exact rfl)) <;> (first | omega | (simp <;> omega)))
      (try simp only [List.setIfInBounds_toArray, List.set_cons_zero, List.set_cons_succ] at b5_0')
      have bN' := Blk.keep (g := g) hb10 (by (repeat' (first | (with_reducible refine' Blk.alloc ?_ _) | (with_reducible refine' Blk.drew ?_) | (with_reducible refine' Blk.drewN ?_ _) | (with_reducible refine' Blk.put ?_ ?_) | (with_reducible refine' Blk.far ?_ ?_ _) | exact bN | exact rfl)) <;> (first | omega | (simp <;> omega)))
      (try simp only [List.setIfInBounds_toArray, List.set_cons_zero, List.set_cons_succ] at bN')
      have b7_0' := Blk.keep (g := w6.heap.size) hb10 (by (repeat' (first | (with_reducible refine' Blk.alloc ?_ _) | (with_reducible refine' Blk.drew ?_) | (with_reducible refine' Blk.drewN ?_ _) | (with_reducible refine' Blk.put ?_ ?_) | (with_reducible refine' Blk.far ?_ ?_ _) | exact b7_0 | exact rfl)) <;> (first | omega | (simp <;> omega)))
      (try simp only [List.setIfInBounds_toArray, List.set_cons_zero, List.set_cons_succ] at b7_0')
      have b8_0' := Blk.keep (g := w7.heap.size) hb10 (by (repeat' (first | (with_reducible refine' Blk.alloc ?_ _) | (with_reducible refine' Blk.drew ?_) | (with_reducible refine' Blk.drewN ?_ _) | (with_reducible refine' Blk.put ?_ ?_) | (with_reducible refine' Blk.far ?_ ?_ _) | exact b8_0 | exact rfl)) <;> (first | omega | (simp <;> omega)))
      (try simp only [List.setIfInBounds_toArray, List.set_cons_zero, List.set_cons_succ] at b8_0')
      have b9_0' := Blk.keep (g := w8.heap.size) hb10 (by (repeat' (first | (with_reducible refine' Blk.alloc ?_ _) | (with_reducible refine' Blk.drew ?_) | (with_reducible refine' Blk.drewN ?_ _) | (with_reducible refine' Blk.put ?_ ?_) | (with_reducible refine' Blk.far ?_ ?_ _) | exact b9_0 | exact rfl)) <;> (first | omega | (simp <;> omega)))
      (try simp only [List.setIfInBounds_toArray, List.set_cons_zero, List.set_cons_succ] at b9_0')
      have ht10 := TapeAt.below (by (repeat' (first | (with_reducible exact HT.out) | (with_reducible refine' TapeAt.alloc ?_ _) | (with_reducible refine' TapeAt.drew ?_) | (with_reducible refine' TapeAt.drewN ?_ _) | (with_reducible refine' TapeAt.set ?_ ?_ _))) <;> (first | omega | (simp <;> omega))) hb10
      clear HT; have T10 := ht10.lt; have HT := Lib.hid ht10; clear ht10
      clear hb10 K9
      clear b3_0 c3_0 f3_0 l3_0 e3_0 k3_0; have b3_0 := b3_0'; clear b3_0'
      clear b4_0 c4_0 f4_0 l4_0 e4_0 k4_0; have b4_0 := b4_0'; clear b4_0'
      clear b5_0 c5_0 f5_0 l5_0 e5_0 k5_0; have b5_0 := b5_0'; clear b5_0'
      clear bN cN fN lN eN kN; have bN := bN'; clear bN'
      clear b7_0 c7_0 f7_0 l7_0 e7_0 k7_0; have b7_0 := b7_0'; clear b7_0'
      clear b8_0 c8_0 f8_0 l8_0 e8_0 k8_0; have b8_0 := b8_0'; clear b8_0'
      clear b9_0 c9_0 f9_0 l9_0 e9_0 k9_0; have b9_0 := b9_0'; clear b9_0'
      obtain ⟨c3_0, f3_0, l3_0, e3_0, k3_0⟩ := Blk.facts b3_0
      obtain ⟨c4_0, f4_0, l4_0, e4_0, k4_0⟩ := Blk.facts b4_0
      obtain ⟨c5_0, f5_0, l5_0, e5_0, k5_0⟩ := Blk.facts b5_0
      obtain ⟨cN, fN, lN, eN, kN⟩ := Blk.facts bN
      obtain ⟨c7_0, f7_0, l7_0, e7_0, k7_0⟩ := Blk.facts b7_0
      obtain ⟨c8_0, f8_0, l8_0, e8_0, k8_0⟩ := Blk.facts b8_0
      obtain ⟨c9_0, f9_0, l9_0, e9_0, k9_0⟩ := Blk.facts b9_0
      go_wp2_with fail
      refine (U7.out _).mono ?_
      rintro e w11 ⟨rfl, hb11⟩
      have K11 : Below w.heap.size w w11 := kept_call hb11 (by (repeat' (first | (with_reducible exact K10) | (with_reducible refine Below.setCell ?_ ?_ _) | (with_reducible refine Below.alloc ?_ ?_ _) | (with_reducible refine Below.drew ?_) | (with_reducible refine below_drewN ?_ _))) <;> (first | omega | (simp <;> omega)))
      have Z11 : w.heap.size ≤ w11.heap.size := K11.size
      have b3_0' := Blk.keep (g := w2.heap.size) hb11 (by (repeat' (first | (with_reducible refine' Blk.alloc ?_ _) | (with_reducible refine' Blk.drew ?_) | (with_reducible refine' Blk.drewN ?_ _) | (with_reducible refine' Blk.put ?_ ?_) | (with_reducible refine' Blk.far ?_ ?_ _) | exact b3_0 | exact rfl)) <;> (first | omega | (simp <;> omega)))
      (try simp only [List.setIfInBounds_toArray, List.set_cons_zero, List.set_cons_succ] at b3_0')
      have b4_0' := Blk.keep (g := w3.heap.size) hb11 (by (repeat' (first | (with_reducible refine' Blk.alloc ?_ _) | (with_reducible refine' Blk.drew ?_) | (with_reducible refine' Blk.drewN ?_ _) | (with_reducible refine' Blk.put ?_ ?_) | (with_reducible refine' Blk.far ?_ ?_ _) | exact b4_0 | exact rfl)) <;> (first | omega | (simp <;> omega)))
      (try simp only [List.setIfInBounds_toArray, List.set_cons_zero, List.set_cons_succ] at b4_0')
      have b5_0' := Blk.keep (g := w4.heap.size) hb11 (by (repeat' (first | (with_reducible refine' Blk.alloc ?_ _) | (with_reducible refine' Blk.drew ?_) | (with_reducible refine' Blk.drewN ?_ _) | (with_reducible refine' Blk.put ?_ ?_) | (with_reducible refine' Blk.far ?_ ?_ _) | exact b5_0 | exact rfl)) <;> (first | omega | (simp <;> omega)))
      (try simp only [List.setIfInBounds_toArray, List.set_cons_zero, List.set_cons_succ] at b5_0')
      have bN' := Blk.keep (g := g) hb11 (by (repeat' (first | (with_reducible refine' Blk.alloc ?_ _) | (with_reducible refine' Blk.drew ?_) | (with_reducible refine' Blk.drewN ?_ _) | (with_reducible refine' Blk.put ?_ ?_) | (with_reducible refine' Blk.far ?_ ?_ _) | exact bN | exact rfl)) <;> (first | omega | (simp <;> omega)))
      (try simp only [List.setIfInBounds_toArray, List.set_cons_zero, List.set_cons_succ] at bN')
      have b7_0' := Blk.keep (g := w6.heap.size) hb11 (by (repeat' (first | (with_reducible refine' Blk.alloc ?_ _) | (with_reducible refine' Blk.drew ?_) | (with_reducible refine' Blk.drewN ?_ _) | (with_reducible refine' Blk.put ?_ ?_) | (with_reducible refine' Blk.far ?_ ?_ _) | exact b7_0 | exact rfl)) <;> (first | omega | (simp <;> omega)))
      (try simp only [List.setIfInBounds_toArray, List.set_cons_zero, List.set_cons_succ] at b7_0')
      have b8_0' := Blk.keep (g := w7.heap.size) hb11 (by (repeat' (first | (with_reducible refine' Blk.alloc ?_ _) | (with_reducible refine' Blk.drew ?_) | (with_reducible refine' Blk.drewN ?_ _) | (with_reducible refine' Blk.put ?_ ?_) | (with_reducible refine' Blk.far ?_ ?_ _) | exact b8_0 | exact rfl)) <;> (first | omega | (simp <;> omega)))
      (try simp only [List.setIfInBounds_toArray, List.set_cons_zero, List.set_cons_succ] at b8_0')
      have b9_0' := Blk.keep (g := w8.heap.size) hb11 (by (repeat' (first | (with_reducible refine' Blk.alloc ?_ _) | (with_reducible refine' Blk.drew ?_) | (with_reducible refine' Blk.drewN ?_ _) | (with_reducible refine' Blk.put ?_ ?_) | (with_reducible refine' Blk.far ?_ ?_ _) | exact b9_0 | exact rfl)) <;> (first | omega | (simp <;> omega)))
      (try simp only [List.setIfInBounds_toArray, List.set_cons_zero, List.set_cons_succ] at b9_0')
      have ht11 := TapeAt.below (by (repeat' (first | (with_reducible exact HT.out) | (with_reducible refine' TapeAt.alloc ?_ _) | (with_reducible refine' TapeAt.drew ?_) | (with_reducible refine' TapeAt.drewN ?_ _) | (with_reducible refine' TapeAt.set ?_ ?_ _))) <;> (first | omega | (simp <;> omega))) hb11
      clear HT; have T11 := ht11.lt; have HT := Lib.hid ht11; clear ht11
      clear hb11 K10
      clear b3_0 c3_0 f3_0 l3_0 e3_0 k3_0; have b3_0 := b3_0'; clear b3_0'
      clear b4_0 c4_0 f4_0 l4_0 e4_0 k4_0; have b4_0 := b4_0'; clear b4_0'
      clear b5_0 c5_0 f5_0 l5_0 e5_0 k5_0; have b5_0 := b5_0'; clear b5_0'
      clear bN cN fN lN eN kN; have bN := bN'; clear bN'
      clear b7_0 c7_0 f7_0 l7_0 e7_0 k7_0; have b7_0 := b7_0'; clear b7_0'
      clear b8_0 c8_0 f8_0 l8_0 e8_0 k8_0; have b8_0 := b8_0'; clear b8_0'
      clear b9_0 c9_0 f9_0 l9_0 e9_0 k9_0; have b9_0 := b9_0'; clear b9_0'
      obtain ⟨c3_0, f3_0, l3_0, e3_0, k3_0⟩ := Blk.facts b3_0
      obtain ⟨c4_0, f4_0, l4_0, e4_0, k4_0⟩ := Blk.facts b4_0
      obtain ⟨c5_0, f5_0, l5_0, e5_0, k5_0⟩ := Blk.facts b5_0
      obtain ⟨cN, fN, lN, eN, kN⟩ := Blk.facts bN
      obtain ⟨c7_0, f7_0, l7_0, e7_0, k7_0⟩ := Blk.facts b7_0
      obtain ⟨c8_0, f8_0, l8_0, e8_0, k8_0⟩ := Blk.facts b8_0
      obtain ⟨c9_0, f9_0, l9_0, e9_0, k9_0⟩ := Blk.facts b9_0
      go_wp2
      go_ret
      exact ⟨by simp, by (repeat' (first | (with_reducible exact K11) | (with_reducible refine Below.setCell ?_ ?_ _) | (with_reducible refine Below.alloc ?_ ?_ _) | (with_reducible refine Below.drew ?_) | (with_reducible refine below_drewN ?_ _))) <;> (first | omega | (simp <;> omega))⟩
theorem falls37_walk (A : Option Addr) (len cap : Nat) (zs : List Int) {w : World} (hA : IntsAt w A len zs) (v : Int) (_ : IntIn v) (v2 : Int) (_ : IntIn v2) (W : World) (h : W = w) :
    Walked 5 #[.slice A len cap, .int .i64 v, .int .i64 v2] W := by
  subst h; exact falls37_core A len cap zs v v2 W hA
end Go.Proofs.Yteodoehhkhacoaa
