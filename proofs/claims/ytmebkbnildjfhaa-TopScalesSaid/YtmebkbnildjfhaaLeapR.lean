/- What a smeared clock shows: the reference; Smear of both. -/
import Derived.Test.YtmebkbnildjfhaaLeapT
import Derived.Test.YtmebkbnildjfhaaLeapG
namespace Go.Proofs.Ytmebkbnildjfhaa
open Go.RowKit
set_option linter.unusedSimpArgs false
set_option linter.unusedVariables false

theorem shAt_up {first : Int} {zs : List (Int × Int)} {t : Int} (hv : LVal first zs) {q : Nat} (hq : q < zs.length) (h : t < wiHi zs q) : ∀ k, q + 1 ≤ k → k ≤ zs.length → shAt first zs t k = shAt first zs t (q + 1)
  | 0, h1, _ => by omega
  | k + 1, h1, h2 => by
    by_cases e : k = q
    · subst e; rfl
    · have ha : t < wiLo first zs k := by
        have g := hv.win (i := k) (by omega)
        have hgt : ∀ j, q + 1 + j < zs.length → wiHi zs q < wiLo first zs (q + 1 + j) := by
          intro j
          induction j with
          | zero => intro hj; have := hv.asc (i := q) hj; rw [Nat.add_zero]; omega
          | succ j ih => intro hj; have := ih (by omega); have := hv.asc (i := q + 1 + j) hj; have := hv.win (i := q + 1 + j) (by omega); rw [show q + 1 + (j + 1) = q + 1 + j + 1 by omega]; omega
        have := hgt (k - (q + 1)) (by omega)
        rw [show q + 1 + (k - (q + 1)) = k by omega] at this
        omega
      have hw := hv.win (i := k) (by omega)
      rw [shAt, if_neg (by omega), if_neg (by omega)]
      exact shAt_up hv hq h k (by omega) (by omega)
def RSm (w : World) (first : Int) (A : Option Addr) (len cap : Nat) (zs : List (Int × Int)) (tt : Int) (G : Nat) (o i : Value) (wr : World) : Prop :=
  ∃ (q : Nat) (ov : Int), q ≤ len ∧ G = len - q ∧ i = .int .i64 (q : Int) ∧ o = .int .i64 ov ∧ -64 ≤ ov ∧ ov ≤ 164 ∧ shAt first zs tt q = tt - ov * 1048576 ∧ Blk wr w.heap.size 25 #[.int .i64 first, .slice A len cap] ∧ Below w.heap.size w wr
set_option maxRecDepth 100000 in
set_option maxHeartbeats 2000000 in
theorem rsmear_any (first : Int) (A : Option Addr) (len cap : Nat) (zs : List (Int × Int)) (tt : Int) (hv : LVal first zs) (t0 : 0 ≤ tt) (t1 : tt ≤ 1152921504606846976) (w : World) (h : PrAt w A len zs) :
    Calls Try.prog 72 #[.agg #[.int .i64 first, .slice A len cap], .int .i64 tt] w (RB w (.int .i64 (shL first zs tt))) := by
  have hz := h.1
  have f0 := hv.1; have f1 := hv.2.1; have l64 := hv.2.2.1
  have HW := Lib.hid (fun (i : Nat) (hi : i < len) W (hW : Below w.heap.size w W) => rwindow_any first A len cap zs i hi hv W (h.below hW))
  have HO := Lib.hid (fun (i : Nat) (hi : i < len) W (hW : Below w.heap.size w W) => rold_any first A len cap zs i hi W (h.below hW))
  have H := Lib.hid h; have HV := Lib.hid hv; clear h hv
  go_enter Try.func72, Try.ntmps72
  go_wp2
  go_loopg [5, 6] len (fun G o i wr => RSm w first A len cap zs tt G o i wr)
  case atStart => exact ⟨0, first, by omega, by omega, rfl, rfl, by omega, by omega, rfl, by (repeat' (first | ((with_reducible refine' Blk.newE ?_); first | rfl | (simp; done)) | (with_reducible refine' Blk.alloc ?_ _) | (with_reducible refine' Blk.drew ?_) | (with_reducible refine' Blk.drewN ?_ _) | (with_reducible refine' Blk.put ?_ ?_) | (with_reducible refine' Blk.far ?_ ?_ _) | exact rfl)) <;> (first | omega | (simp <;> omega)), by (repeat' (first | (with_reducible exact Below.refl _ _) | (with_reducible refine Below.setCell ?_ ?_ _) | (with_reducible refine Below.alloc ?_ ?_ _) | (with_reducible refine Below.drew ?_) | (with_reducible refine below_drewN ?_ _))) <;> (first | omega | (simp <;> omega))⟩
  case round =>
    obtain ⟨q, ov, hq, rfl, rfl, rfl, o0, o1, hsh, b0, KR⟩ := hrel
    have ZR := KR.size
    have HSH := Lib.hid hsh; clear hsh
    by_cases hlt : q < len
    · have gk : decide ((q : Int) < (len : Int)) = true := decide_eq_true (by omega)
      have rw1 := HW.out q hlt wr KR
      obtain ⟨bl, off, rfl, hb, hcs⟩ := H.out.2.2 (by omega)
      have hc1 := (hcs q hlt).2
      clear hcs
      have E1 : ∀ W, Below w.heap.size w W → W.cell? ⟨bl, off + q * 2 + 1, none⟩ = some (.int .i64 (zs.getD q (0, 0)).2) := fun W h => (h.cell (p := ⟨bl, off + q * 2 + 1, none⟩) hb).trans hc1
      clear hc1
      obtain ⟨a1, a2, a3, a4, a5⟩ := HV.out.at_ (i := q) (by omega)
      obtain ⟨c1, c2⟩ := HV.out.off (i := q) (by omega)
      obtain ⟨w1, w2, w3, w4⟩ := win_len (first := first) (zs := zs) q
      have e1 : wsLo zs q = ((zs.getD q (0, 0)).1 - 43200) * 1048576 := rfl
      have nxt : shAt first zs tt (q + 1) = if wiHi zs q ≤ tt then tt - (zs.getD q (0, 0)).2 * 1048576 else if wiLo first zs q ≤ tt then wsLo zs q + quo (tt - wiLo first zs q) 86400 (86400 + (zs.getD q (0, 0)).2 - oldL first zs q) false else shAt first zs tt q := rfl
      have stp : tt < wiHi zs q → shL first zs tt = shAt first zs tt (q + 1) := fun h => shAt_up HV.out (by omega) h _ (by omega) (Nat.le_refl _)
      have ro1 := HO.out q hlt
      have NXT := Lib.hid nxt; have STP := Lib.hid stp; have RO := Lib.hid ro1; have RW1 := Lib.hid rw1; clear nxt stp ro1 rw1
      generalize wsLo zs q = sl at *
      generalize wsHi zs q = sh at *
      generalize wiLo first zs q = il at *
      generalize wiHi zs q = ih at *
      generalize oldL first zs q = pv at *
      generalize zs.getD q (0, 0) = z at *
      obtain ⟨x, y⟩ := z
      dsimp only at *
      have nb2 : bl ≠ w.heap.size := by omega
      have hbW : bl < wr.heap.size := by omega
      obtain ⟨c0, f0, l0, e0, k0⟩ := Blk.facts b0
      by_cases k1 : il ≤ tt ∧ tt < ih
      · have g1 : decide (il ≤ tt) = true := decide_eq_true k1.1
        have g2 : decide (tt < ih) = true := decide_eq_true k1.2
        have hd0 : 0 ≤ tt - il := by omega
        have hd1 : tt - il ≤ 90598014975 := by omega
        have v1 : IntKind.i64.wrap (tt - il) = tt - il := IntWalk.i64_in _ (by omega)
        have v2 : IntKind.i64.wrap ((tt - il) * 86400) = (tt - il) * 86400 := IntWalk.i64_in _ (by omega)
        have v3 : IntKind.i64.wrap (86400 + y) = 86400 + y := IntWalk.i64_in _ (by omega)
        have v4 : IntKind.i64.wrap (86400 + y - pv) = 86400 + y - pv := IntWalk.i64_in _ (by omega)
        have hr : ∀ W, Calls Try.prog 98 #[.int .i64 ((tt - il) * 86400), .int .i64 (86400 + y - pv), .bool false] W (RB W (.int .i64 ((tt - il) * 86400 / (86400 + y - pv)))) := fun W => by
          have hdv : (tt - il) * 86400 / (86400 + y - pv) ≤ 9223372036854775806 := by rcases a5 with h | h; (rw [show 86400 + y - pv = 86401 by omega]; omega); (rw [show 86400 + y - pv = 86399 by omega]; omega)
          exact (rounded_any _ _ false W (by omega) (by omega) (by omega) (by omega) hdv).mono (fun _ _ hh => ⟨hh.1, by obtain ⟨_, e⟩ := hh; subst e; exact Below.refl _ _⟩)
        have hqb : 0 ≤ (tt - il) * 86400 / (86400 + y - pv) ∧ (tt - il) * 86400 / (86400 + y - pv) ≤ 90598014976 := by rcases a5 with h | h; (rw [show 86400 + y - pv = 86401 by omega]; omega); (rw [show 86400 + y - pv = 86399 by omega]; omega)
        have hval : shL first zs tt = sl + (tt - il) * 86400 / (86400 + y - pv) := by rw [STP.out k1.2, NXT.out, if_neg (by omega), if_pos k1.1, quo_down]
        rw [hval]; clear hval
        generalize (tt - il) * 86400 / (86400 + y - pv) = qv at *
        have v5 : IntKind.i64.wrap (sl + qv) = sl + qv := IntWalk.i64_in _ (by omega)
        have HR := Lib.hid hr; clear hr hqb w1 w2 w3 w4 e1
        go_wp2_with fail
        refine (RW1.out).mono ?_
        rintro e w1 ⟨rfl, hb1⟩
        have K1 : Below w.heap.size w w1 := kept_call hb1 (by (repeat' (first | (with_reducible exact KR) | (with_reducible refine Below.setCell ?_ ?_ _) | (with_reducible refine Below.alloc ?_ ?_ _) | (with_reducible refine Below.drew ?_) | (with_reducible refine below_drewN ?_ _))) <;> (first | omega | (simp <;> omega)))
        have Z1 : w.heap.size ≤ w1.heap.size := K1.size
        have b0' := Blk.keep (g := w.heap.size) hb1 (by (repeat' (first | (with_reducible refine' Blk.alloc ?_ _) | (with_reducible refine' Blk.drew ?_) | (with_reducible refine' Blk.drewN ?_ _) | (with_reducible refine' Blk.put ?_ ?_) | (with_reducible refine' Blk.far ?_ ?_ _) | exact b0 | exact rfl)) <;> (first | omega | (simp <;> omega)))
        (try simp only [List.setIfInBounds_toArray, List.set_cons_zero, List.set_cons_succ] at b0')
        clear hb1 KR
        clear b0 c0 f0 l0 e0 k0; have b0 := b0'; clear b0'
        obtain ⟨c0, f0, l0, e0, k0⟩ := Blk.facts b0
        go_upto_region 7 with fail
        refine' wp_region_calm (by kernel_rfl) (fun _ _ w' => Below w.heap.size w w' ∧ Blk w' (w.heap.size) 25 #[.int .i64 first, .slice (some ⟨bl, off, none⟩) len cap] ∧ Blk w' (w1.heap.size) 42 #[.int .i64 sl, .int .i64 sh] ∧ Blk w' (w1.heap.size + 1) 42 #[.int .i64 il, .int .i64 ih]) (fun _ _ => True) [(Is _), (Is _), (Is _), (Is _), (Is _), (Is _), (Is _), (Is _), (Is _), (Is _), (Is _), (Is _), (Is _), (Is _), (Is _), (Is _), (Is _), (Is _), (Is _), (Is _), (Is _)] [[], [0], [], [], [3], [2, 4], [5], [], [7], [], [8, 9], [10], [11], [12], [], [], [14, 15], [13, 16], [6, 17], [1, 18], [19]] [] [] rfl (by kernel_rfl) (fun u => by (simp only [calmPut, Act.put, List.setIfInBounds_toArray, List.set_cons_zero, List.set_cons_succ, Nat.zero_add, Nat.reduceAdd]; rfl)) ?_ (calmKeep_cons keep_is' (calmKeep_cons keep_is' (calmKeep_cons keep_is' (calmKeep_cons keep_is' (calmKeep_cons keep_is' (calmKeep_cons keep_is' (calmKeep_cons keep_is' (calmKeep_cons keep_is' (calmKeep_cons keep_is' (calmKeep_cons keep_is' (calmKeep_cons keep_is' (calmKeep_cons keep_is' (calmKeep_cons keep_is' (calmKeep_cons keep_is' (calmKeep_cons keep_is' (calmKeep_cons keep_is' (calmKeep_cons keep_is' (calmKeep_cons keep_is' (calmKeep_cons keep_is' (calmKeep_cons keep_is' (calmKeep_cons keep_is' (calmKeep_nil)))))))))))))))))))))) ?_ ?_
        · intro _
          exact ⟨(by (repeat' (first | (with_reducible exact K1) | (with_reducible refine Below.setCell ?_ ?_ _) | (with_reducible refine Below.alloc ?_ ?_ _) | (with_reducible refine Below.drew ?_) | (with_reducible refine below_drewN ?_ _))) <;> (first | omega | (simp <;> omega))), (by (repeat' (first | (with_reducible exact b0) | (with_reducible refine' Blk.alloc ?_ _) | (with_reducible refine' Blk.drew ?_) | (with_reducible refine' Blk.drewN ?_ _) | (with_reducible refine' Blk.put ?_ ?_) | (with_reducible refine' Blk.far ?_ ?_ _) | exact b0 | exact rfl)) <;> (first | omega | (simp <;> omega))), (by (repeat' (first | ((with_reducible refine' Blk.newE ?_); first | rfl | (simp; done)) | (with_reducible refine' Blk.alloc ?_ _) | (with_reducible refine' Blk.drew ?_) | (with_reducible refine' Blk.drewN ?_ _) | (with_reducible refine' Blk.put ?_ ?_) | (with_reducible refine' Blk.far ?_ ?_ _) | exact rfl)) <;> (first | omega | (simp <;> omega))), (by (repeat' (first | ((with_reducible refine' Blk.newE ?_); first | rfl | (simp; done)) | (with_reducible refine' Blk.alloc ?_ _) | (with_reducible refine' Blk.drew ?_) | (with_reducible refine' Blk.drewN ?_ _) | (with_reducible refine' Blk.put ?_ ?_) | (with_reducible refine' Blk.far ?_ ?_ _) | exact rfl)) <;> (first | omega | (simp <;> omega)))⟩
        rotate_left 21
        · skip
          refine calmSteps_cons (fun u wq n hn hn2 hC hk K hK => ?_) ?_
          · obtain ⟨hP, m0, mf, mt⟩ := hC
            clear hk
            go_simp
            exact hK _ _ _ rfl ⟨hP, m0, mf, mt⟩ trivial rfl
          refine calmSteps_cons (fun u wq n hn hn2 hC hk K hK => ?_) ?_
          · obtain ⟨hP, m0, mf, mt⟩ := hC
            simp only [calmKnown, List.getElem?_cons_zero, List.getElem?_cons_succ, and_true, Is, Pure, Option.some.injEq, List.getD_cons_zero, List.getD_cons_succ, List.map_cons, List.map_nil] at hk
            have h0 := hk; clear hk
            simp only [h0] at hK ⊢
            have H0 := Lib.hid h0; clear h0
            have z0 := m0.cell
            have zf := mf.cell
            have zt := mt.cell
            have y1 := E1 _ hP
            go_simp
            exact hK _ _ _ rfl ⟨hP, m0, mf, mt⟩ trivial rfl
          refine calmSteps_cons (fun u wq n hn hn2 hC hk K hK => ?_) ?_
          · obtain ⟨hP, m0, mf, mt⟩ := hC
            clear hk
            go_simp
            exact hK _ _ _ rfl ⟨hP, m0, mf, mt⟩ trivial rfl
          refine calmSteps_cons (fun u wq n hn hn2 hC hk K hK => ?_) ?_
          · obtain ⟨hP, m0, mf, mt⟩ := hC
            clear hk
            go_simp
            exact hK _ _ _ rfl ⟨hP, m0, mf, mt⟩ trivial rfl
          refine calmSteps_cons (fun u wq n hn hn2 hC hk K hK => ?_) ?_
          · obtain ⟨hP, m0, mf, mt⟩ := hC
            simp only [calmKnown, List.getElem?_cons_zero, List.getElem?_cons_succ, and_true, Is, Pure, Option.some.injEq, List.getD_cons_zero, List.getD_cons_succ, List.map_cons, List.map_nil] at hk
            have h3 := hk; clear hk
            simp only [h3] at hK ⊢
            have H3 := Lib.hid h3; clear h3
            have z0 := m0.cell
            have zf := mf.cell
            have zt := mt.cell
            have y1 := E1 _ hP
            go_simp
            exact hK _ _ _ rfl ⟨hP, m0, mf, mt⟩ trivial rfl
          refine calmSteps_cons (fun u wq n hn hn2 hC hk K hK => ?_) ?_
          · obtain ⟨hP, m0, mf, mt⟩ := hC
            simp only [calmKnown, List.getElem?_cons_zero, List.getElem?_cons_succ, and_true, Is, Pure, Option.some.injEq, List.getD_cons_zero, List.getD_cons_succ, List.map_cons, List.map_nil] at hk
            obtain ⟨h2, h4⟩ := hk
            simp only [h2, h4] at hK ⊢
            have H2 := Lib.hid h2; clear h2; have H4 := Lib.hid h4; clear h4
            go_simp
            exact hK _ _ _ rfl ⟨hP, m0, mf, mt⟩ trivial rfl
          refine calmSteps_cons (fun u wq n hn hn2 hC hk K hK => ?_) ?_
          · obtain ⟨hP, m0, mf, mt⟩ := hC
            simp only [calmKnown, List.getElem?_cons_zero, List.getElem?_cons_succ, and_true, Is, Pure, Option.some.injEq, List.getD_cons_zero, List.getD_cons_succ, List.map_cons, List.map_nil] at hk
            have h5 := hk; clear hk
            simp only [h5] at hK ⊢
            have H5 := Lib.hid h5; clear h5
            go_simp
            exact hK _ _ _ rfl ⟨hP, m0, mf, mt⟩ trivial rfl
          refine calmSteps_cons (fun u wq n hn hn2 hC hk K hK => ?_) ?_
          · obtain ⟨hP, m0, mf, mt⟩ := hC
            clear hk
            go_simp
            exact hK _ _ _ rfl ⟨hP, m0, mf, mt⟩ trivial rfl
          refine calmSteps_cons (fun u wq n hn hn2 hC hk K hK => ?_) ?_
          · obtain ⟨hP, m0, mf, mt⟩ := hC
            simp only [calmKnown, List.getElem?_cons_zero, List.getElem?_cons_succ, and_true, Is, Pure, Option.some.injEq, List.getD_cons_zero, List.getD_cons_succ, List.map_cons, List.map_nil] at hk
            have h7 := hk; clear hk
            simp only [h7] at hK ⊢
            have H7 := Lib.hid h7; clear h7
            have z0 := m0.cell
            have zf := mf.cell
            have zt := mt.cell
            have y1 := E1 _ hP
            go_simp
            exact hK _ _ _ rfl ⟨hP, m0, mf, mt⟩ trivial rfl
          refine calmSteps_cons (fun u wq n hn hn2 hC hk K hK => ?_) ?_
          · obtain ⟨hP, m0, mf, mt⟩ := hC
            clear hk
            go_simp
            exact hK _ _ _ rfl ⟨hP, m0, mf, mt⟩ trivial rfl
          refine calmSteps_cons (fun u wq n hn hn2 hC hk K hK => ?_) ?_
          · obtain ⟨hP, m0, mf, mt⟩ := hC
            simp only [calmKnown, List.getElem?_cons_zero, List.getElem?_cons_succ, and_true, Is, Pure, Option.some.injEq, List.getD_cons_zero, List.getD_cons_succ, List.map_cons, List.map_nil] at hk
            obtain ⟨h8, h9⟩ := hk
            simp only [h8, h9] at hK ⊢
            have H8 := Lib.hid h8; clear h8; have H9 := Lib.hid h9; clear h9
            go_simp
            exact hK _ _ _ rfl ⟨hP, m0, mf, mt⟩ trivial rfl
          refine calmSteps_cons (fun u wq n hn hn2 hC hk K hK => ?_) ?_
          · obtain ⟨hP, m0, mf, mt⟩ := hC
            simp only [calmKnown, List.getElem?_cons_zero, List.getElem?_cons_succ, and_true, Is, Pure, Option.some.injEq, List.getD_cons_zero, List.getD_cons_succ, List.map_cons, List.map_nil] at hk
            have h10 := hk; clear hk
            simp only [h10] at hK ⊢
            have H10 := Lib.hid h10; clear h10
            go_simp
            exact hK _ _ _ rfl ⟨hP, m0, mf, mt⟩ trivial rfl
          refine calmSteps_cons (fun u wq n hn hn2 hC hk K hK => ?_) ?_
          · obtain ⟨hP, m0, mf, mt⟩ := hC
            simp only [calmKnown, List.getElem?_cons_zero, List.getElem?_cons_succ, and_true, Is, Pure, Option.some.injEq, List.getD_cons_zero, List.getD_cons_succ, List.map_cons, List.map_nil] at hk
            have h11 := hk; clear hk
            simp only [h11] at hK ⊢
            have H11 := Lib.hid h11; clear h11
            have z0 := m0.cell
            have zf := mf.cell
            have zt := mt.cell
            have y1 := E1 _ hP
            go_simp
            exact hK _ _ _ rfl ⟨hP, m0, mf, mt⟩ trivial rfl
          refine calmSteps_cons (fun u wq n hn hn2 hC hk K hK => ?_) ?_
          · obtain ⟨hP, m0, mf, mt⟩ := hC
            simp only [calmKnown, List.getElem?_cons_zero, List.getElem?_cons_succ, and_true, Is, Pure, Option.some.injEq, List.getD_cons_zero, List.getD_cons_succ, List.map_cons, List.map_nil] at hk
            have h12 := hk; clear hk
            simp only [h12] at hK ⊢
            have H12 := Lib.hid h12; clear h12
            go_simp
            exact hK _ _ _ rfl ⟨hP, m0, mf, mt⟩ trivial rfl
          refine calmSteps_cons (fun u wq n hn hn2 hC hk K hK => ?_) ?_
          · obtain ⟨hP, m0, mf, mt⟩ := hC
            clear hk
            have z0 := m0.cell
            have zf := mf.cell
            have zt := mt.cell
            have y1 := E1 _ hP
            go_simp
            exact hK _ _ _ rfl ⟨hP, m0, mf, mt⟩ trivial rfl
          refine calmSteps_cons (fun u wq n hn hn2 hC hk K hK => ?_) ?_
          · obtain ⟨hP, m0, mf, mt⟩ := hC
            clear hk
            go_simp
            exact hK _ _ _ rfl ⟨hP, m0, mf, mt⟩ trivial rfl
          refine calmSteps_cons (fun u wq n hn hn2 hC hk K hK => ?_) ?_
          · obtain ⟨hP, m0, mf, mt⟩ := hC
            simp only [calmKnown, List.getElem?_cons_zero, List.getElem?_cons_succ, and_true, Is, Pure, Option.some.injEq, List.getD_cons_zero, List.getD_cons_succ, List.map_cons, List.map_nil] at hk
            obtain ⟨h14, h15⟩ := hk
            simp only [h14, h15] at hK ⊢
            have H14 := Lib.hid h14; clear h14; have H15 := Lib.hid h15; clear h15
            go_wp2_with fail
            first | (with_reducible refine (RO.out _ hP).mono ?_) | (with_reducible refine (HR.out _).mono ?_)
            rintro e w2 ⟨rfl, hbl⟩
            exact hK _ _ _ rfl ⟨kept_call hbl hP, Blk.keep hbl m0, Blk.keep hbl mf, Blk.keep hbl mt⟩ trivial rfl
          refine calmSteps_cons (fun u wq n hn hn2 hC hk K hK => ?_) ?_
          · obtain ⟨hP, m0, mf, mt⟩ := hC
            simp only [calmKnown, List.getElem?_cons_zero, List.getElem?_cons_succ, and_true, Is, Pure, Option.some.injEq, List.getD_cons_zero, List.getD_cons_succ, List.map_cons, List.map_nil] at hk
            obtain ⟨h13, h16⟩ := hk
            simp only [h13, h16] at hK ⊢
            have H13 := Lib.hid h13; clear h13; have H16 := Lib.hid h16; clear h16
            go_simp
            exact hK _ _ _ rfl ⟨hP, m0, mf, mt⟩ trivial rfl
          refine calmSteps_cons (fun u wq n hn hn2 hC hk K hK => ?_) ?_
          · obtain ⟨hP, m0, mf, mt⟩ := hC
            simp only [calmKnown, List.getElem?_cons_zero, List.getElem?_cons_succ, and_true, Is, Pure, Option.some.injEq, List.getD_cons_zero, List.getD_cons_succ, List.map_cons, List.map_nil] at hk
            obtain ⟨h6, h17⟩ := hk
            simp only [h6, h17] at hK ⊢
            have H6 := Lib.hid h6; clear h6; have H17 := Lib.hid h17; clear h17
            go_wp2_with fail
            first | (with_reducible refine (RO.out _ hP).mono ?_) | (with_reducible refine (HR.out _).mono ?_)
            rintro e w2 ⟨rfl, hbl⟩
            exact hK _ _ _ rfl ⟨kept_call hbl hP, Blk.keep hbl m0, Blk.keep hbl mf, Blk.keep hbl mt⟩ trivial rfl
          refine calmSteps_cons (fun u wq n hn hn2 hC hk K hK => ?_) ?_
          · obtain ⟨hP, m0, mf, mt⟩ := hC
            simp only [calmKnown, List.getElem?_cons_zero, List.getElem?_cons_succ, and_true, Is, Pure, Option.some.injEq, List.getD_cons_zero, List.getD_cons_succ, List.map_cons, List.map_nil] at hk
            obtain ⟨h1, h18⟩ := hk
            simp only [h1, h18] at hK ⊢
            have H1 := Lib.hid h1; clear h1; have H18 := Lib.hid h18; clear h18
            go_simp
            exact hK _ _ _ rfl ⟨hP, m0, mf, mt⟩ trivial rfl
          refine calmSteps_cons (fun u wq n hn hn2 hC hk K hK => ?_) ?_
          · obtain ⟨hP, m0, mf, mt⟩ := hC
            simp only [calmKnown, List.getElem?_cons_zero, List.getElem?_cons_succ, and_true, Is, Pure, Option.some.injEq, List.getD_cons_zero, List.getD_cons_succ, List.map_cons, List.map_nil] at hk
            have h19 := hk; clear hk
            simp only [h19] at hK ⊢
            have H19 := Lib.hid h19; clear h19
            go_simp
            exact hK _ _ _ rfl ⟨hP, m0, mf, mt⟩ trivial rfl
          exact calmSteps_nil
        · intro u w2 hC hF
          obtain ⟨hP, m0, mf, mt⟩ := hC
          simp only [calmFacts, Is, and_true] at hF
          obtain ⟨f0, f1, f2, f3, f4, f5, f6, f7, f8, f9, f10, f11, f12, f13, f14, f15, f16, f17, f18, f19, f20⟩ := hF
          simp only [f0, f1, f2, f3, f4, f5, f6, f7, f8, f9, f10, f11, f12, f13, f14, f15, f16, f17, f18, f19, f20]
          clear f0 f1 f2 f3 f4 f5 f6 f7 f8 f9 f10 f11 f12 f13 f14 f15 f16 f17 f18 f19 f20
          have K2 := hP
          have Z2 : w.heap.size ≤ w2.heap.size := K2.size
          clear hP K1
          clear b0 c0 f0 l0 e0 k0; have b0 := m0; clear m0
          obtain ⟨c0, f0, l0, e0, k0⟩ := Blk.facts b0
          have bf := mf; clear mf
          obtain ⟨cf, ff, lf, ef, kf⟩ := Blk.facts bf
          have bt := mt; clear mt
          obtain ⟨ct, ft, lt, et, kt⟩ := Blk.facts bt
          go_wp2
          go_ret
          exact ⟨rfl, by (repeat' (first | (with_reducible exact K2) | (with_reducible refine Below.setCell ?_ ?_ _) | (with_reducible refine Below.alloc ?_ ?_ _) | (with_reducible refine Below.drew ?_) | (with_reducible refine below_drewN ?_ _))) <;> (first | omega | (simp <;> omega))⟩
      by_cases k2 : ih ≤ tt
      · have g1 : decide (il ≤ tt) = true := decide_eq_true (by omega)
        have g2 : decide (tt < ih) = false := decide_eq_false (by omega)
        have g3 : decide (ih ≤ tt) = true := decide_eq_true k2
        have HN := Lib.hid (show shAt first zs tt (q + 1) = tt - y * 1048576 from by rw [NXT.out, if_pos k2])
        clear w1 w2 w3 w4 e1
        go_wp2_with fail
        refine (RW1.out).mono ?_
        rintro e w1 ⟨rfl, hb1⟩
        have K1 : Below w.heap.size w w1 := kept_call hb1 (by (repeat' (first | (with_reducible exact KR) | (with_reducible refine Below.setCell ?_ ?_ _) | (with_reducible refine Below.alloc ?_ ?_ _) | (with_reducible refine Below.drew ?_) | (with_reducible refine below_drewN ?_ _))) <;> (first | omega | (simp <;> omega)))
        have Z1 : w.heap.size ≤ w1.heap.size := K1.size
        have b0' := Blk.keep (g := w.heap.size) hb1 (by (repeat' (first | (with_reducible refine' Blk.alloc ?_ _) | (with_reducible refine' Blk.drew ?_) | (with_reducible refine' Blk.drewN ?_ _) | (with_reducible refine' Blk.put ?_ ?_) | (with_reducible refine' Blk.far ?_ ?_ _) | exact b0 | exact rfl)) <;> (first | omega | (simp <;> omega)))
        (try simp only [List.setIfInBounds_toArray, List.set_cons_zero, List.set_cons_succ] at b0')
        clear hb1 KR
        clear b0 c0 f0 l0 e0 k0; have b0 := b0'; clear b0'
        obtain ⟨c0, f0, l0, e0, k0⟩ := Blk.facts b0
        have y1 := E1 _ K1
        have y2 : bl < w1.heap.size := by omega
        have y3 : bl ≠ w1.heap.size := by omega
        have y4 : bl ≠ w1.heap.size + 1 := by omega
        have y5 : bl < w1.heap.size + 1 := by omega
        go_wp2
        go_roundg (len - (q + 1))
        case measure => omega
        case rel => exact ⟨q + 1, y, by omega, by omega, by go_num, rfl, by omega, by omega, HN.out, by (repeat' (first | (with_reducible refine' Blk.alloc ?_ _) | (with_reducible refine' Blk.drew ?_) | (with_reducible refine' Blk.drewN ?_ _) | (with_reducible refine' Blk.put ?_ ?_) | (with_reducible refine' Blk.far ?_ ?_ _) | exact b0 | exact rfl)) <;> (first | omega | (simp <;> omega)), by (repeat' (first | (with_reducible exact K1) | (with_reducible refine Below.setCell ?_ ?_ _) | (with_reducible refine Below.alloc ?_ ?_ _) | (with_reducible refine Below.drew ?_) | (with_reducible refine below_drewN ?_ _))) <;> (first | omega | (simp <;> omega))⟩
      · have g1 : decide (il ≤ tt) = false := decide_eq_false (by omega)
        have g3 : decide (ih ≤ tt) = false := decide_eq_false (by omega)
        have HN := Lib.hid (show shAt first zs tt (q + 1) = tt - ov * 1048576 from by rw [NXT.out, if_neg (by omega), if_neg (by omega)]; exact HSH.out)
        clear w1 w2 w3 w4 e1
        go_wp2_with fail
        refine (RW1.out).mono ?_
        rintro e w1 ⟨rfl, hb1⟩
        have K1 : Below w.heap.size w w1 := kept_call hb1 (by (repeat' (first | (with_reducible exact KR) | (with_reducible refine Below.setCell ?_ ?_ _) | (with_reducible refine Below.alloc ?_ ?_ _) | (with_reducible refine Below.drew ?_) | (with_reducible refine below_drewN ?_ _))) <;> (first | omega | (simp <;> omega)))
        have Z1 : w.heap.size ≤ w1.heap.size := K1.size
        have b0' := Blk.keep (g := w.heap.size) hb1 (by (repeat' (first | (with_reducible refine' Blk.alloc ?_ _) | (with_reducible refine' Blk.drew ?_) | (with_reducible refine' Blk.drewN ?_ _) | (with_reducible refine' Blk.put ?_ ?_) | (with_reducible refine' Blk.far ?_ ?_ _) | exact b0 | exact rfl)) <;> (first | omega | (simp <;> omega)))
        (try simp only [List.setIfInBounds_toArray, List.set_cons_zero, List.set_cons_succ] at b0')
        clear hb1 KR
        clear b0 c0 f0 l0 e0 k0; have b0 := b0'; clear b0'
        obtain ⟨c0, f0, l0, e0, k0⟩ := Blk.facts b0
        go_wp2
        go_roundg (len - (q + 1))
        case measure => omega
        case rel => exact ⟨q + 1, ov, by omega, by omega, by go_num, rfl, by omega, by omega, HN.out, by (repeat' (first | (with_reducible refine' Blk.alloc ?_ _) | (with_reducible refine' Blk.drew ?_) | (with_reducible refine' Blk.drewN ?_ _) | (with_reducible refine' Blk.put ?_ ?_) | (with_reducible refine' Blk.far ?_ ?_ _) | exact b0 | exact rfl)) <;> (first | omega | (simp <;> omega)), by (repeat' (first | (with_reducible exact K1) | (with_reducible refine Below.setCell ?_ ?_ _) | (with_reducible refine Below.alloc ?_ ?_ _) | (with_reducible refine Below.drew ?_) | (with_reducible refine below_drewN ?_ _))) <;> (first | omega | (simp <;> omega))⟩
    · obtain rfl : q = len := by omega
      have gk : decide ((q : Int) < (q : Int)) = false := decide_eq_false (by omega)
      obtain ⟨c0, f0, l0, e0, k0⟩ := Blk.facts b0
      have v1 : IntKind.i64.wrap (ov * 1048576) = ov * 1048576 := IntWalk.i64_in _ (by omega)
      have v2 : IntKind.i64.wrap (tt - ov * 1048576) = tt - ov * 1048576 := IntWalk.i64_in _ (by omega)
      have hval : shL first zs tt = tt - ov * 1048576 := by unfold shL; rw [hz]; exact HSH.out
      have HVAL := Lib.hid hval; clear hval
      go_wp2
      go_ret
      exact ⟨by rw [HVAL.out]; rfl, by (repeat' (first | (with_reducible exact KR) | (with_reducible refine Below.setCell ?_ ?_ _) | (with_reducible refine Below.alloc ?_ ?_ _) | (with_reducible refine Below.drew ?_) | (with_reducible refine below_drewN ?_ _))) <;> (first | omega | (simp <;> omega))⟩
end Go.Proofs.Ytmebkbnildjfhaa
