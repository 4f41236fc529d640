/- The reference's Profile. -/
import Derived.Test.YtlfkkfdolnkjfaaRSwE
namespace Go.Proofs.Ytlfkkfdolnkjfaa
open Go.RowKit Go.Shelf Go.Sort
set_option linter.unusedSimpArgs false
set_option linter.unusedVariables false

theorem grown_belowP {w w' : World} (X : Option Nat) (h : Below w.heap.size w w') : w.grownBy w' X := ⟨h.os, h.tape, h.output, h.size, fun k hk _ => h.block k hk⟩
theorem RowP.below {w w' : World} {base : Nat} {v : Value} {ps : List Pc} (h : RowP w base v ps) (hb : Below w.heap.size w w') : RowP w' base v ps := RowP.kept h (grown_belowP none hb) (fun k _ e => by cases e)
theorem calm_opP {P : Program} {o : Oper} {a : Act} {w : World} {K : Act → World → Prop} {Q : Exit → Act → World → Prop} {b : Bool} {X : Prop} (hb : b = true) (h : o.wp P a w K Q) : if b = true then Oper.wp P o a w K Q else X := by rw [if_pos hb]; exact h
def OneP (X : Option Nat) (x y n : Int) : List Value → Value → World → Prop := fun _ v w => ∃ g, v = .slice (some ⟨g, 0, none⟩) 1 1 ∧ some g ≠ X ∧ Blk w g 57 #[.int .i64 x, .int .i64 y, .int .i64 n]
theorem keep_oneP {X : Option Nat} {x y n : Int} : ∀ d v w w', w.grownBy w' X → OneP X x y n d v w → OneP X x y n d v w' := fun _ _ _ _ h ⟨g, e, hn, hb⟩ => ⟨g, e, hn, (h.block g hb.lt hn).trans hb⟩
theorem rp_lo {zs : List (Int × Int)} {cs : List Int} {b : Int} (h : ∀ u ∈ cs, b ≤ u) : ∀ k, k ≤ cs.length → ∀ q ∈ rpAt zs cs k, b ≤ q.lo
  | 0, _, q, hq => by simp [rpAt] at hq
  | k + 1, hk, q, hq => by
    have ih := rp_lo (zs := zs) h k (by omega)
    unfold rpAt at hq
    split at hq
    · exact ih q hq
    · exact addP_lo ih (h _ (by rw [List.getD_eq_getElem?_getD, List.getElem?_eq_getElem (by omega)]; exact List.getElem_mem _)) q hq
def RpRel (w : World) (zs : List (Int × Int)) (cs : List Int) (G : Nat) (v i : Value) (wr : World) : Prop := ∃ k : Nat, k ≤ cs.length - 1 ∧ G = cs.length - k ∧ i = .int .i64 k ∧ RowP wr w.heap.size v (rpAt zs cs k) ∧ Below w.heap.size w wr
set_option maxRecDepth 100000 in
set_option maxHeartbeats 4000000 in
theorem rprofile_any (A : Option Addr) (len cap : Nat) (zs : List (Int × Int)) (w : World) (h : SpansAt w A len zs) :
    Calls Try.prog 38 #[.slice A len cap] w (PfR w zs) := by
  have hz := h.1
  have hlm := h.2.1
  subst hz
  have HC := Lib.hid (fun W (hW : Below w.heap.size w W) => rswcheck_any A zs.length cap zs W (h.below hW))
  by_cases hc0 : ckE zs = 0
  · obtain ⟨h64, hv⟩ := ckE_ok hc0
    have HCU := Lib.hid (fun W (hW : Below w.heap.size w W) => cuts_any A zs.length cap zs hv h64 W (h.below hW))
    have HK := Lib.hid (fun a W (hW : Below w.heap.size w W) => rcnt_any A zs.length cap zs a h64 W (h.below hW))
    simp only [hc0] at HC
    have HC0 := Lib.hid hc0; have HV := Lib.hid hv; clear h hc0 hv
    go_enter Try.func38, Try.ntmps38
    go_wp2_with fail
    refine (HC.out _ (by (repeat' (first | (with_reducible exact Below.refl _ _) | (with_reducible refine Below.setCell ?_ ?_ _) | (with_reducible refine Below.alloc ?_ ?_ _) | (with_reducible refine Below.drew ?_) | (with_reducible refine below_drewN ?_ _))) <;> (first | omega | (simp <;> omega)))).mono ?_
    rintro e w1 ⟨rfl, hb1⟩
    have K1 : Below w.heap.size w w1 := kept_call hb1 (by (repeat' (first | (with_reducible exact Below.refl _ _) | (with_reducible refine Below.setCell ?_ ?_ _) | (with_reducible refine Below.alloc ?_ ?_ _) | (with_reducible refine Below.drew ?_) | (with_reducible refine below_drewN ?_ _))) <;> (first | omega | (simp <;> omega)))
    have Z1 : w.heap.size ≤ w1.heap.size := K1.size
    clear hb1
    go_wp2_with fail
    refine (HCU.out _ (by (repeat' (first | (with_reducible exact K1) | (with_reducible refine Below.setCell ?_ ?_ _) | (with_reducible refine Below.alloc ?_ ?_ _) | (with_reducible refine Below.drew ?_) | (with_reducible refine below_drewN ?_ _))) <;> (first | omega | (simp <;> omega)))).mono ?_
    rintro e w2 ⟨A2, c2, cs, rfl, hnm, hcu, hb2⟩
    have K2 : Below w.heap.size w w2 := kept_call hb2 (by (repeat' (first | (with_reducible exact K1) | (with_reducible refine Below.setCell ?_ ?_ _) | (with_reducible refine Below.alloc ?_ ?_ _) | (with_reducible refine Below.drew ?_) | (with_reducible refine below_drewN ?_ _))) <;> (first | omega | (simp <;> omega)))
    have Z2 : w.heap.size ≤ w2.heap.size := K2.size
    clear hb2 K1
    have hcl := hcu.2.2
    have hlaw := rp_law hcu
    have hrl := rpAt_law hcu
    have HNM := Lib.hid hnm; have HCX := Lib.hid hcu; have HLAW := Lib.hid hlaw; have HRL := Lib.hid hrl; clear hnm hcu hlaw hrl
    go_wp2
    go_loopg [6, 7] cs.length (fun G v i wr => RpRel w2 zs cs G v i wr)
    case atStart => exact ⟨0, by omega, by omega, rfl, RowP.nil, by (repeat' (first | (with_reducible exact Below.refl _ _) | (with_reducible refine Below.setCell ?_ ?_ _) | (with_reducible refine Below.alloc ?_ ?_ _) | (with_reducible refine Below.drew ?_) | (with_reducible refine below_drewN ?_ _))) <;> (first | omega | (simp <;> omega))⟩
    case round =>
      obtain ⟨k, hk, rfl, rfl, hrow, KR⟩ := hrel
      have ZR := KR.size
      have KW : Below w.heap.size w wr := kept_call KR K2
      have hpl := rpAt_length zs cs k
      obtain ⟨out, hout⟩ : ∃ out, rpAt zs cs k = out := ⟨_, rfl⟩
      rw [hout] at hrow hpl
      obtain ⟨A3, c3, e3⟩ := RowP.len hrow
      subst e3
      have HROW := Lib.hid hrow; clear hrow
      have wk : IntKind.i64.wrap ((k : Int) + 1) = ((k + 1 : Nat) : Int) := by rw [IntWalk.i64_in _ (by omega)]; omega
      by_cases hlt : k + 1 < cs.length
      · have gk : decide (((k + 1 : Nat) : Int) < (cs.length : Int)) = true := decide_eq_true (by omega)
        have gk2 : decide ((k : Int) + 1 < (cs.length : Int)) = true := decide_eq_true (by omega)
        obtain ⟨bl, off, rfl, hb, hcs⟩ := HNM.out.2.2.2.2 (by omega)
        have HCS := Lib.hid hcs; clear hcs
        obtain ⟨p1, p2, -⟩ := HRL.out k (by omega)
        have hab := HCX.out.1.get (i := k) (j := k + 1) (by omega) hlt
        have hin : ∀ u ∈ cs, -1152921504606846976 ≤ u ∧ u ≤ 1152921504606846977 := fun u hu => by
          obtain ⟨z, hz, e⟩ := (HCX.out.2.1 u).1 hu
          have := vS_true.1 (HV.out z hz)
          rcases e with e | e <;> omega
        have hia := hin (cs.getD k 0) (by rw [List.getD_eq_getElem?_getD, List.getElem?_eq_getElem (by omega)]; exact List.getElem_mem _)
        have hib := hin (cs.getD (k + 1) 0) (by rw [List.getD_eq_getElem?_getD, List.getElem?_eq_getElem hlt]; exact List.getElem_mem _)
        have hnx : rpAt zs cs (k + 1) = if cntS zs (cs.getD k 0) = 0 then rpAt zs cs k else addP (rpAt zs cs k) ⟨cs.getD k 0, cs.getD (k + 1) 0 - 1, cntS zs (cs.getD k 0)⟩ := rfl
        have hlo := rp_lo (zs := zs) (fun u hu => (hin u hu).1) k (by omega)
        rw [hout] at hnx p1 p2 hlo
        have HLO := Lib.hid hlo; clear hlo
        have hnn := cntS_nonneg zs (cs.getD k 0)
        have EA : ∀ W, Below w2.heap.size w2 W → W.cell? ⟨bl, off + k, none⟩ = some (.int .i64 (cs.getD k 0)) := fun W h => (h.cell (p := ⟨bl, off + k, none⟩) hb).trans (HCS.out k (by omega))
        have EB : ∀ W, Below w2.heap.size w2 W → W.cell? ⟨bl, off + (k + 1), none⟩ = some (.int .i64 (cs.getD (k + 1) 0)) := fun W h => (h.cell (p := ⟨bl, off + (k + 1), none⟩) hb).trans (HCS.out (k + 1) hlt)
        generalize hA : cs.getD k 0 = a at *
        generalize hB : cs.getD (k + 1) 0 = b at *
        clear hA hB hin
        obtain ⟨n, hn⟩ : ∃ n, cntS zs a = n := ⟨_, rfl⟩
        have HKA := Lib.hid (fun W (hW : Below w.heap.size w W) => hn ▸ HK.out a W hW)
        rw [hn] at hnx hnn
        have HNX := Lib.hid hnx; have HP1 := Lib.hid p1; have HP2 := Lib.hid p2; clear hnx hn p1 p2 hout
        have ea := EA _ KR
        have hbW : bl < wr.heap.size := by omega
        go_wp2_with fail
        refine (HKA.out _ (by (repeat' (first | (with_reducible exact KW) | (with_reducible refine Below.setCell ?_ ?_ _) | (with_reducible refine Below.alloc ?_ ?_ _) | (with_reducible refine Below.drew ?_) | (with_reducible refine below_drewN ?_ _))) <;> (first | omega | (simp <;> omega)))).mono ?_
        rintro e w3 ⟨rfl, hb3⟩
        have K3 : Below w2.heap.size w2 w3 := kept_call hb3 (by (repeat' (first | (with_reducible exact KR) | (with_reducible refine Below.setCell ?_ ?_ _) | (with_reducible refine Below.alloc ?_ ?_ _) | (with_reducible refine Below.drew ?_) | (with_reducible refine below_drewN ?_ _))) <;> (first | omega | (simp <;> omega)))
        have Z3 := K3.size
        have hr3 : RowP w3 w2.heap.size (.slice A3 out.length c3) out := RowP.below (by first | exact HROW.out | exact RowP.drewN HROW.out _) hb3
        have ea := EA _ K3
        have eb := EB _ K3
        have hbW : bl < w3.heap.size := by omega
        have HR3 := Lib.hid hr3; clear hr3 hb3 HROW KR ZR KW
        have wl : IntKind.i64.wrap ((out.length : Int) - 1) = (out.length : Int) - 1 := IntWalk.i64_in _ (by omega)
        have wb : IntKind.i64.wrap (b - 1) = b - 1 := IntWalk.i64_in _ (by omega)
        by_cases hn0 : n = 0
        · have HSK := Lib.hid (show rpAt zs cs (k + 1) = out by rw [HNX.out, if_pos hn0])
          subst hn0
          go_wp2
          go_roundg (cs.length - (k + 1))
          case measure => omega
          case rel => exact ⟨k + 1, by omega, by omega, by go_num, by rw [HSK.out]; exact HR3.out, by (repeat' (first | (with_reducible exact K3) | (with_reducible refine Below.setCell ?_ ?_ _) | (with_reducible refine Below.alloc ?_ ?_ _) | (with_reducible refine Below.drew ?_) | (with_reducible refine below_drewN ?_ _))) <;> (first | omega | (simp <;> omega))⟩
        · have gn : decide (n = 0) = false := decide_eq_false hn0
          have gnb : (n == 0) = false := by simpa using hn0
          have hadd : rpAt zs cs (k + 1) = addP out ⟨a, b - 1, n⟩ := by rw [HNX.out, if_neg hn0]
          have HADD := Lib.hid hadd; clear hadd hn0 HNX
          obtain ⟨i0, hif, hz0, hz1, hz2⟩ := info_parts infoPc
          have wk1 : IntKind.i64.wrap ((k : Int) + 1) = (k : Int) + 1 := IntWalk.i64_in _ (by omega)
          have hki0 : (0 : Int) ≤ (k : Int) + 1 := by omega
          have hkl : k < cs.length := by omega
          have hki : (k : Int) + 1 < (cs.length : Int) := by omega
          by_cases m0 : out.length = 0
          · clear wl
            have w0 : IntKind.i64.wrap ((out.length : Int) - 1) = -1 := by rw [show (out.length : Int) - 1 = -1 by omega]; rfl
            have had : rpAt zs cs (k + 1) = out ++ [⟨a, b - 1, n⟩] := by rw [HADD.out]; exact if_neg (by rintro ⟨h, -⟩; omega)
            have HAD := Lib.hid had; clear had
            have HM0 := Lib.hid m0; clear m0
            go_wp2_with fail
            go_quiet (fail)
            go_wp2_with fail
            refine' wp_region_calmS (by kernel_rfl) (fun n9 us w' => Below w2.heap.size w2 w' ∧ w3.heap.size ≤ w'.heap.size ∧ (n9 = 0 → w'.ownsRow w2.heap.size 57 3 (.slice A3 out.length c3) out.length (cellsP (out))) ∧ (n9 ≤ 1 → us[1]? = some (.slice A3 out.length c3)) ∧ (n9 = 1 → ∃ A' c', us[0]? = some (.slice A' (out.length + 1) c') ∧ w'.ownsRow w2.heap.size 57 3 (.slice A' (out.length + 1) c') (out.length + 1) (cellsP (out) ++ [.int .i64 a, .int .i64 (b - 1), .int .i64 n])) ∧ (n9 = 2 → ∃ A' c', us[1]? = some (.slice A' (out.length + 1) c') ∧ w'.ownsRow w2.heap.size 57 3 (.slice A' (out.length + 1) c') (out.length + 1) (cellsP (out) ++ [.int .i64 a, .int .i64 (b - 1), .int .i64 n]))) (fun w w' => w.grownBy w' ((Value.slice A3 out.length c3).ownBlock)) [(Is (.slice A3 out.length c3)), (Is (.slice (some ⟨bl, off, none⟩) cs.length c2)), (Is (.int .i64 (k : Int))), (Is (.pointer (some ⟨bl, off + k, none⟩))), (Is (.int .i64 a)), (Is (.slice (some ⟨bl, off, none⟩) cs.length c2)), (Is (.int .i64 (k : Int))), (Is (.int .i64 ((k : Int) + 1))), (Is (.pointer (some ⟨bl, off + (k + 1), none⟩))), (Is (.int .i64 b)), (Is (.int .i64 (b - 1))), (Is (.agg #[.int .i64 a, .int .i64 (b - 1)])), (Is (.int .i64 n)), (Is (.agg #[.int .i64 a, .int .i64 (b - 1), .int .i64 n])), (OneP ((Value.slice A3 out.length c3).ownBlock) a (b - 1) n), (fun _ _ _ => True), (fun _ _ _ => True)] [[], [], [], [1, 2], [3], [], [], [6], [5, 7], [8], [9], [4, 10], [], [11, 12], [13], [0, 14], [15]] [15, 16] [15, 16] rfl (by kernel_rfl) (fun u => by (simp only [calmPut, Act.put, List.setIfInBounds_toArray, List.set_cons_zero, List.set_cons_succ, Nat.zero_add, Nat.reduceAdd]; rfl)) ?_ (calmKeep_cons keep_is' (calmKeep_cons keep_is' (calmKeep_cons keep_is' (calmKeep_cons keep_is' (calmKeep_cons keep_is' (calmKeep_cons keep_is' (calmKeep_cons keep_is' (calmKeep_cons keep_is' (calmKeep_cons keep_is' (calmKeep_cons keep_is' (calmKeep_cons keep_is' (calmKeep_cons keep_is' (calmKeep_cons keep_is' (calmKeep_cons keep_is' (calmKeep_cons keep_oneP (calmKeep_cons keep_triv (calmKeep_cons keep_triv (calmKeep_nil)))))))))))))))))) ?_ ?_
            · skip
              exact ⟨(below_drewN K3 _).drew, Nat.le_refl _, fun _ => HR3.out, fun _ => rfl, fun h => absurd h (by decide), fun h => absurd h (by decide)⟩
            · skip
              refine calmSteps_cons (fun u wq n' hn hn2 hC hk K hK => ?_) ?_
              · obtain ⟨hP, hS, hR, hU, h1, h2⟩ := hC
                clear hk
                obtain rfl : n' = 0 := Nat.le_zero.1 (hn2 0 15 rfl (by kernel_rfl))
                have hu : u 16 = .slice A3 out.length c3 := Option.some.inj (show some (u 16) = _ from hU (by decide))
                simp only [hu] at hK ⊢
                have HU := Lib.hid hu; clear hu
                have RR := Lib.hid hR; clear hR
                go_simp
                exact hK _ _ _ rfl ⟨hP, hS, RR.out, hU, h1, h2⟩ (grown_belowP _ (Below.refl _ _)) rfl
              refine calmSteps_cons (fun u wq n' hn hn2 hC hk K hK => ?_) ?_
              · obtain ⟨hP, hS, hR, hU, h1, h2⟩ := hC
                clear hk
                have RR := Lib.hid hR; clear hR
                go_simp
                exact hK _ _ _ rfl ⟨hP, hS, RR.out, hU, h1, h2⟩ (grown_belowP _ (Below.refl _ _)) rfl
              refine calmSteps_cons (fun u wq n' hn hn2 hC hk K hK => ?_) ?_
              · obtain ⟨hP, hS, hR, hU, h1, h2⟩ := hC
                clear hk
                have RR := Lib.hid hR; clear hR
                go_simp
                exact hK _ _ _ rfl ⟨hP, hS, RR.out, hU, h1, h2⟩ (grown_belowP _ (Below.refl _ _)) rfl
              refine calmSteps_cons (fun u wq n' hn hn2 hC hk K hK => ?_) ?_
              · obtain ⟨hP, hS, hR, hU, h1, h2⟩ := hC
                simp only [calmKnown, List.getElem?_cons_zero, List.getElem?_cons_succ, and_true, Is, Pure, Option.some.injEq, List.getD_cons_zero, List.getD_cons_succ, List.map_cons, List.map_nil] at hk
                obtain ⟨h1, h2⟩ := hk
                simp only [h1, h2] at hK ⊢
                have H1 := Lib.hid h1; clear h1; have H2 := Lib.hid h2; clear h2
                have RR := Lib.hid hR; clear hR
                go_simp
                exact hK _ _ _ rfl ⟨hP, hS, RR.out, hU, h1, h2⟩ (grown_belowP _ (Below.refl _ _)) rfl
              refine calmSteps_cons (fun u wq n' hn hn2 hC hk K hK => ?_) ?_
              · obtain ⟨hP, hS, hR, hU, h1, h2⟩ := hC
                simp only [calmKnown, List.getElem?_cons_zero, List.getElem?_cons_succ, and_true, Is, Pure, Option.some.injEq, List.getD_cons_zero, List.getD_cons_succ, List.map_cons, List.map_nil] at hk
                have h3 := hk; clear hk
                simp only [h3] at hK ⊢
                have H3 := Lib.hid h3; clear h3
                have ya := EA _ hP
                have RR := Lib.hid hR; clear hR
                go_simp
                exact hK _ _ _ rfl ⟨hP, hS, RR.out, hU, h1, h2⟩ (grown_belowP _ (Below.refl _ _)) rfl
              refine calmSteps_cons (fun u wq n' hn hn2 hC hk K hK => ?_) ?_
              · obtain ⟨hP, hS, hR, hU, h1, h2⟩ := hC
                clear hk
                have RR := Lib.hid hR; clear hR
                go_simp
                exact hK _ _ _ rfl ⟨hP, hS, RR.out, hU, h1, h2⟩ (grown_belowP _ (Below.refl _ _)) rfl
              refine calmSteps_cons (fun u wq n' hn hn2 hC hk K hK => ?_) ?_
              · obtain ⟨hP, hS, hR, hU, h1, h2⟩ := hC
                clear hk
                have RR := Lib.hid hR; clear hR
                go_simp
                exact hK _ _ _ rfl ⟨hP, hS, RR.out, hU, h1, h2⟩ (grown_belowP _ (Below.refl _ _)) rfl
              refine calmSteps_cons (fun u wq n' hn hn2 hC hk K hK => ?_) ?_
              · obtain ⟨hP, hS, hR, hU, h1, h2⟩ := hC
                simp only [calmKnown, List.getElem?_cons_zero, List.getElem?_cons_succ, and_true, Is, Pure, Option.some.injEq, List.getD_cons_zero, List.getD_cons_succ, List.map_cons, List.map_nil] at hk
                have h6 := hk; clear hk
                simp only [h6] at hK ⊢
                have H6 := Lib.hid h6; clear h6
                have RR := Lib.hid hR; clear hR
                go_simp
                exact hK _ _ _ rfl ⟨hP, hS, RR.out, hU, h1, h2⟩ (grown_belowP _ (Below.refl _ _)) rfl
              refine calmSteps_cons (fun u wq n' hn hn2 hC hk K hK => ?_) ?_
              · obtain ⟨hP, hS, hR, hU, h1, h2⟩ := hC
                simp only [calmKnown, List.getElem?_cons_zero, List.getElem?_cons_succ, and_true, Is, Pure, Option.some.injEq, List.getD_cons_zero, List.getD_cons_succ, List.map_cons, List.map_nil] at hk
                obtain ⟨h5, h7⟩ := hk
                simp only [h5, h7] at hK ⊢
                have H5 := Lib.hid h5; clear h5; have H7 := Lib.hid h7; clear h7
                have RR := Lib.hid hR; clear hR
                go_simp
                exact hK _ _ _ rfl ⟨hP, hS, RR.out, hU, h1, h2⟩ (grown_belowP _ (Below.refl _ _)) rfl
              refine calmSteps_cons (fun u wq n' hn hn2 hC hk K hK => ?_) ?_
              · obtain ⟨hP, hS, hR, hU, h1, h2⟩ := hC
                simp only [calmKnown, List.getElem?_cons_zero, List.getElem?_cons_succ, and_true, Is, Pure, Option.some.injEq, List.getD_cons_zero, List.getD_cons_succ, List.map_cons, List.map_nil] at hk
                have h8 := hk; clear hk
                simp only [h8] at hK ⊢
                have H8 := Lib.hid h8; clear h8
                have yb := EB _ hP
                have RR := Lib.hid hR; clear hR
                go_simp
                exact hK _ _ _ rfl ⟨hP, hS, RR.out, hU, h1, h2⟩ (grown_belowP _ (Below.refl _ _)) rfl
              refine calmSteps_cons (fun u wq n' hn hn2 hC hk K hK => ?_) ?_
              · obtain ⟨hP, hS, hR, hU, h1, h2⟩ := hC
                simp only [calmKnown, List.getElem?_cons_zero, List.getElem?_cons_succ, and_true, Is, Pure, Option.some.injEq, List.getD_cons_zero, List.getD_cons_succ, List.map_cons, List.map_nil] at hk
                have h9 := hk; clear hk
                simp only [h9] at hK ⊢
                have H9 := Lib.hid h9; clear h9
                have RR := Lib.hid hR; clear hR
                go_simp
                exact hK _ _ _ rfl ⟨hP, hS, RR.out, hU, h1, h2⟩ (grown_belowP _ (Below.refl _ _)) rfl
              refine calmSteps_cons (fun u wq n' hn hn2 hC hk K hK => ?_) ?_
              · obtain ⟨hP, hS, hR, hU, h1, h2⟩ := hC
                simp only [calmKnown, List.getElem?_cons_zero, List.getElem?_cons_succ, and_true, Is, Pure, Option.some.injEq, List.getD_cons_zero, List.getD_cons_succ, List.map_cons, List.map_nil] at hk
                obtain ⟨h4, h10⟩ := hk
                simp only [h4, h10] at hK ⊢
                have H4 := Lib.hid h4; clear h4; have H10 := Lib.hid h10; clear h10
                have RR := Lib.hid hR; clear hR
                go_simp
                exact hK _ _ _ rfl ⟨hP, hS, RR.out, hU, h1, h2⟩ (grown_belowP _ (Below.refl _ _)) rfl
              refine calmSteps_cons (fun u wq n' hn hn2 hC hk K hK => ?_) ?_
              · obtain ⟨hP, hS, hR, hU, h1, h2⟩ := hC
                clear hk
                have RR := Lib.hid hR; clear hR
                go_simp
                exact hK _ _ _ rfl ⟨hP, hS, RR.out, hU, h1, h2⟩ (grown_belowP _ (Below.refl _ _)) rfl
              refine calmSteps_cons (fun u wq n' hn hn2 hC hk K hK => ?_) ?_
              · obtain ⟨hP, hS, hR, hU, h1, h2⟩ := hC
                simp only [calmKnown, List.getElem?_cons_zero, List.getElem?_cons_succ, and_true, Is, Pure, Option.some.injEq, List.getD_cons_zero, List.getD_cons_succ, List.map_cons, List.map_nil] at hk
                obtain ⟨h11, h12⟩ := hk
                simp only [h11, h12] at hK ⊢
                have H11 := Lib.hid h11; clear h11; have H12 := Lib.hid h12; clear h12
                have RR := Lib.hid hR; clear hR
                go_simp
                exact hK _ _ _ rfl ⟨hP, hS, RR.out, hU, h1, h2⟩ (grown_belowP _ (Below.refl _ _)) rfl
              refine calmSteps_cons (fun u wq n' hn hn2 hC hk K hK => ?_) ?_
              · obtain ⟨hP, hS, hR, hU, h1, h2⟩ := hC
                simp only [calmKnown, List.getElem?_cons_zero, List.getElem?_cons_succ, and_true, Is, Pure, Option.some.injEq, List.getD_cons_zero, List.getD_cons_succ, List.map_cons, List.map_nil] at hk
                have h13 := hk; clear hk
                simp only [h13] at hK ⊢
                have H13 := Lib.hid h13; clear h13
                obtain rfl : n' = 0 := Nat.le_zero.1 (hn2 0 15 rfl (by kernel_rfl))
                have hr := hR rfl
                have hXl : ∀ k, (Value.slice A3 out.length c3).ownBlock = some k → k < wq.heap.size := fun k hk => (World.ownsRow.lt hr k hk).2
                have HR := Lib.hid hr; clear hr hR
                go_simp
                exact hK _ _ _ rfl ⟨hP.alloc hP.size _, by simp; omega, fun _ => World.ownsRow.alloc HR.out _, hU, fun h => absurd h (by decide), fun h => absurd h (by decide)⟩ (grown_belowP _ ((Below.refl _ _).alloc (Nat.le_refl _) _)) ⟨wq.heap.size, rfl, fun e => absurd (hXl _ e.symm) (by omega), Blk.new _ _ _⟩
              refine calmSteps_cons (fun u wq n' hn hn2 hC hk K hK => ?_) ?_
              · obtain ⟨hP, hS, hR, hU, h1, h2⟩ := hC
                simp only [calmKnown, List.getElem?_cons_zero, List.getElem?_cons_succ, and_true, Is, Pure, Option.some.injEq, List.getD_cons_zero, List.getD_cons_succ, List.map_cons, List.map_nil] at hk
                obtain ⟨h0, ⟨g5, h14, hgX, hgB⟩⟩ := hk
                simp only [h0, h14] at hK ⊢
                have H0 := Lib.hid h0; clear h0; have H14 := Lib.hid h14; clear h14
                obtain rfl := hn 0 rfl
                have hr := hR rfl
                refine calm_opP (by rfl) ?_
                refine wp_append_exact _ _ 52 rfl w2.heap.size 57 i0 (.agg #[.int .i64 0, .int .i64 0, .int .i64 0]) 3 24 Try.underlying52 hif hz0 hz1 hz2 rfl (by decide) (.slice A3 out.length c3) out.length (cellsP (out)) rfl hr (some ⟨g5, 0, none⟩) 1 1 [.int .i64 a, .int .i64 (b - 1), .int .i64 n] rfl rfl (fun _ => ⟨_, rfl, World.news_of_block (t := 57) (fr := (0, 0)) hgB⟩) (by simp [Value.oneCell']) (by unfold maxLen; omega) (by omega) hP.size ?_
                intro A' c' w' hown hgr _
                have hb9 : Below w2.heap.size w2 w' := by rcases hgr with h | ⟨g0, cap0, e, -, -, h⟩; (exact hP.grown h hP.size (fun k hk => by cases hk)); (exact hP.grown h hP.size (fun k hk => by injection hk with hk; subst hk; exact (World.ownsRow.lt hr g0 (by rw [e]; rfl)).1))
                have hg9 : wq.grownBy w' ((Value.slice A3 out.length c3).ownBlock) := by rcases hgr with h | ⟨g0, cap0, e, -, -, h⟩; (exact ⟨h.os, h.tape, h.output, h.size, fun k hk hn => h.block k hk (by simp)⟩); (rw [e]; exact h)
                exact hK _ _ _ rfl ⟨hb9, Nat.le_trans hS hg9.size, fun h => absurd h (by decide), fun _ => hU (by decide), fun _ => ⟨A', c', rfl, hown⟩, fun h => absurd h (by decide)⟩ hg9 trivial
              refine calmSteps_cons (fun u wq n' hn hn2 hC hk K hK => ?_) ?_
              · obtain ⟨hP, hS, hR, hU, h1, h2⟩ := hC
                simp only [calmKnown, List.getElem?_cons_zero, List.getElem?_cons_succ, and_true, Is, Pure, Option.some.injEq, List.getD_cons_zero, List.getD_cons_succ, List.map_cons, List.map_nil] at hk
                have _p := hk; clear hk
                obtain rfl := hn 1 rfl
                obtain ⟨A1, c1, e1, e3⟩ := h1 rfl
                have e1 : u 15 = .slice A1 (out.length + 1) c1 := Option.some.inj (show some (u 15) = _ from e1)
                simp only [e1] at hK ⊢
                have E9 := Lib.hid e1; clear e1
                go_simp
                exact hK _ _ _ rfl ⟨hP, hS, fun h => absurd h (by decide), fun h => absurd h (by decide), fun h => absurd h (by decide), fun _ => ⟨A1, c1, rfl, e3⟩⟩ (grown_belowP _ (Below.refl _ _)) trivial
              exact calmSteps_nil
            · intro u w9 hC hF
              obtain ⟨hP, -, -, -, -, h2⟩ := hC
              obtain ⟨A9, c9, e1, e3⟩ := h2 (by decide)
              have e1 : u 16 = .slice A9 (out.length + 1) c9 := Option.some.inj (show some (u 16) = _ from e1)
              simp only [e1]
              clear e1 hF
              have hr9 : RowP w9 w2.heap.size (.slice A9 (out.length + 1) c9) ((out) ++ [⟨a, b - 1, n⟩]) := by unfold RowP; rw [show ((out) ++ [(⟨a, b - 1, n⟩ : Pc)]).length = out.length + 1 from by simp, cellsP_snoc]; exact e3
              have R9 := Lib.hid hr9; clear e3 hr9
              go_wp2
              go_roundg (cs.length - (k + 1))
              case measure => omega
              case rel => exact ⟨k + 1, by omega, by omega, by go_num, by rw [HAD.out]; exact R9.out, hP⟩
          · obtain ⟨g, cp, eg, hg1, hg2, hgf, hgc⟩ := RowP.form HR3.out (by omega)
            obtain ⟨a', x9, rfl⟩ := snoc_of (l := out) (by omega)
            have hln : (a' ++ [x9]).length = a'.length + 1 := by simp
            cases eg
            obtain ⟨d0, d1, d2⟩ := hgc a'.length (by omega)
            have hgl : (a' ++ [x9]).getD a'.length ⟨0, 0, 0⟩ = x9 := by simp [List.getD_eq_getElem?_getD]
            have hgl2 : (a' ++ [x9]).getD ((a' ++ [x9]).length - 1) ⟨0, 0, 0⟩ = x9 := by rw [hln]; exact hgl
            have hset : ∀ u : Pc, (a' ++ [x9]).set ((a' ++ [x9]).length - 1) u = a' ++ [u] := fun u => by
              rw [hln, Nat.add_sub_cancel, List.set_append, if_neg (by omega), Nat.sub_self]; rfl
            rw [hgl] at d0 d1 d2
            clear hgc
            have hst2 : rpAt zs cs (k + 1) = if 0 < (a' ++ [x9]).length ∧ x9.n = n ∧ x9.hi + 1 = a then a' ++ [⟨x9.lo, b - 1, n⟩] else (a' ++ [x9]) ++ [⟨a, b - 1, n⟩] := by rw [HADD.out]; unfold addP; rw [hgl2, hset]
            have hbx := HP2.out x9 (by simp)
            have hbl := (HP1.out.1 x9 (by simp)).1
            have hbo := HLO.out x9 (by simp)
            have HST2 := Lib.hid hst2; have HLN := Lib.hid hln; clear hst2 hgl hgl2 hset HADD
            have hHR : RowP w3 w2.heap.size (.slice (some ⟨g, 0, none⟩) (a'.length + 1) c3) (a' ++ [x9]) := by have := HR3.out; rwa [HLN.out] at this
            rw [hln] at hpl wl ⊢
            clear HR3 hln m0
            have HR3 := Lib.hid hHR; clear hHR
            obtain ⟨xl, xh, xn⟩ := x9
            dsimp only at hbx hbl hbo d0 d1 d2 HST2
            obtain ⟨q, hq⟩ : ∃ q, q = a'.length := ⟨_, rfl⟩
            rw [← hq] at d0 d1 d2 hpl wl ⊢
            rw [← hq] at HR3
            have HM := Lib.hid hq; clear hq wl
            have wm : IntKind.i64.wrap (((q : Int) + 1) - 1) = (q : Int) := by rw [show (q : Int) + 1 - 1 = (q : Int) by omega]; exact IntWalk.i64_in _ (by omega)
            have wm2 : IntKind.i64.wrap ((((q + 1 : Nat) : Int)) - 1) = (q : Int) := by rw [show (((q + 1 : Nat) : Int)) - 1 = (q : Int) by omega]; exact IntWalk.i64_in _ (by omega)
            have g3 : decide (0 ≤ (q : Int)) = true := decide_eq_true (by omega)
            have hR9 : RowP w3 w2.heap.size (.slice (some ⟨g, 0, none⟩) (a' ++ [(⟨xl, xh, xn⟩ : Pc)]).length c3) (a' ++ [(⟨xl, xh, xn⟩ : Pc)]) := by have := HR3.out; rw [HLN.out, ← HM.out]; exact this
            have HR9 := Lib.hid hR9; clear hR9
            have nbg : bl ≠ g := by omega
            have wx : IntKind.i64.wrap (xh + 1) = xh + 1 := IntWalk.i64_in _ (by omega)
            by_cases q1 : xn = n
            · obtain rfl : n = xn := q1.symm
              by_cases q2 : xh + 1 = a
              · have HQ2 := Lib.hid q2
                have g5 : decide (xh + 1 = a) = true := decide_eq_true q2
                have g5b : ((xh + 1) == a) = true := by simpa using q2
                clear q2
                have had : rpAt zs cs (k + 1) = a' ++ [⟨xl, b - 1, n⟩] := by rw [HST2.out, if_pos ⟨by simp, rfl, HQ2.out⟩]
                have HAD := Lib.hid had; clear had
                have hfz := hgf (q * 3 + 1)
                go_wp2_with fail
                go_quiet (fail)
                have hs9 := World.ownsRow.stored (RowP.drewN HR9.out nq) (q * 3 + 1) (.int .i64 (b - 1))
                have HS9 := Lib.hid hs9; clear hs9
                go_wp2
                go_roundg (cs.length - (k + 1))
                case measure => omega
                case rel =>
                  refine ⟨k + 1, by omega, by omega, by go_num, ?_, by (repeat' (first | (with_reducible exact K3) | (with_reducible refine Below.setCell ?_ ?_ _) | (with_reducible refine Below.alloc ?_ ?_ _) | (with_reducible refine Below.drew ?_) | (with_reducible refine below_drewN ?_ _))) <;> (first | omega | (simp <;> omega))⟩
                  rw [HAD.out]
                  have h1 := HS9.out.1
                  unfold RowP
                  have e1 : (a' ++ [(⟨xl, b - 1, n⟩ : Pc)]).length = (a' ++ [(⟨xl, xh, n⟩ : Pc)]).length := by simp
                  rw [e1, ← cellsP_set a' ⟨xl, xh, n⟩ (b - 1), ← HM.out]
                  have e2 := HLN.out
                  rw [e2, ← HM.out] at h1
                  rw [e2, ← HM.out]
                  exact h1
              · have g5 : decide (xh + 1 = a) = false := decide_eq_false q2
                have g5b : ((xh + 1) == a) = false := by simpa using q2
                have had : rpAt zs cs (k + 1) = (a' ++ [(⟨xl, xh, n⟩ : Pc)]) ++ [⟨a, b - 1, n⟩] := by rw [HST2.out, if_neg (fun h => q2 h.2.2)]
                have HAD := Lib.hid had; clear had
                go_wp2_with fail
                go_quiet (fail)
                go_wp2_with fail
                refine' wp_region_calmS (by kernel_rfl) (fun n9 us w' => Below w2.heap.size w2 w' ∧ w3.heap.size ≤ w'.heap.size ∧ (n9 = 0 → w'.ownsRow w2.heap.size 57 3 (.slice (some ⟨g, 0, none⟩) (q + 1) c3) (q + 1) (cellsP (a' ++ [(⟨xl, xh, n⟩ : Pc)]))) ∧ (n9 ≤ 1 → us[1]? = some (.slice (some ⟨g, 0, none⟩) (q + 1) c3)) ∧ (n9 = 1 → ∃ A' c', us[0]? = some (.slice A' ((q + 1) + 1) c') ∧ w'.ownsRow w2.heap.size 57 3 (.slice A' ((q + 1) + 1) c') ((q + 1) + 1) (cellsP (a' ++ [(⟨xl, xh, n⟩ : Pc)]) ++ [.int .i64 a, .int .i64 (b - 1), .int .i64 n])) ∧ (n9 = 2 → ∃ A' c', us[1]? = some (.slice A' ((q + 1) + 1) c') ∧ w'.ownsRow w2.heap.size 57 3 (.slice A' ((q + 1) + 1) c') ((q + 1) + 1) (cellsP (a' ++ [(⟨xl, xh, n⟩ : Pc)]) ++ [.int .i64 a, .int .i64 (b - 1), .int .i64 n]))) (fun w w' => w.grownBy w' ((Value.slice (some ⟨g, 0, none⟩) (q + 1) c3).ownBlock)) [(Is (.slice (some ⟨g, 0, none⟩) (q + 1) c3)), (Is (.slice (some ⟨bl, off, none⟩) cs.length c2)), (Is (.int .i64 (k : Int))), (Is (.pointer (some ⟨bl, off + k, none⟩))), (Is (.int .i64 a)), (Is (.slice (some ⟨bl, off, none⟩) cs.length c2)), (Is (.int .i64 (k : Int))), (Is (.int .i64 ((k : Int) + 1))), (Is (.pointer (some ⟨bl, off + (k + 1), none⟩))), (Is (.int .i64 b)), (Is (.int .i64 (b - 1))), (Is (.agg #[.int .i64 a, .int .i64 (b - 1)])), (Is (.int .i64 n)), (Is (.agg #[.int .i64 a, .int .i64 (b - 1), .int .i64 n])), (OneP ((Value.slice (some ⟨g, 0, none⟩) (q + 1) c3).ownBlock) a (b - 1) n), (fun _ _ _ => True), (fun _ _ _ => True)] [[], [], [], [1, 2], [3], [], [], [6], [5, 7], [8], [9], [4, 10], [], [11, 12], [13], [0, 14], [15]] [15, 16] [15, 16] rfl (by kernel_rfl) (fun u => by (simp only [calmPut, Act.put, List.setIfInBounds_toArray, List.set_cons_zero, List.set_cons_succ, Nat.zero_add, Nat.reduceAdd]; rfl)) ?_ (calmKeep_cons keep_is' (calmKeep_cons keep_is' (calmKeep_cons keep_is' (calmKeep_cons keep_is' (calmKeep_cons keep_is' (calmKeep_cons keep_is' (calmKeep_cons keep_is' (calmKeep_cons keep_is' (calmKeep_cons keep_is' (calmKeep_cons keep_is' (calmKeep_cons keep_is' (calmKeep_cons keep_is' (calmKeep_cons keep_is' (calmKeep_cons keep_is' (calmKeep_cons keep_oneP (calmKeep_cons keep_triv (calmKeep_cons keep_triv (calmKeep_nil)))))))))))))))))) ?_ ?_
                · skip
                  exact ⟨(below_drewN K3 _).drew, Nat.le_refl _, fun _ => (by have h := HR3.out; unfold RowP at h; rw [show (a' ++ [(⟨xl, xh, n⟩ : Pc)]).length = q + 1 from by rw [HM.out]; simp] at h; exact h), fun _ => rfl, fun h => absurd h (by decide), fun h => absurd h (by decide)⟩
                · skip
                  refine calmSteps_cons (fun u wq n' hn hn2 hC hk K hK => ?_) ?_
                  · obtain ⟨hP, hS, hR, hU, h1, h2⟩ := hC
                    clear hk
                    obtain rfl : n' = 0 := Nat.le_zero.1 (hn2 0 15 rfl (by kernel_rfl))
                    have hu : u 16 = .slice (some ⟨g, 0, none⟩) (q + 1) c3 := Option.some.inj (show some (u 16) = _ from hU (by decide))
                    simp only [hu] at hK ⊢
                    have HU := Lib.hid hu; clear hu
                    have RR := Lib.hid hR; clear hR
                    go_simp
                    exact hK _ _ _ rfl ⟨hP, hS, RR.out, hU, h1, h2⟩ (grown_belowP _ (Below.refl _ _)) rfl
                  refine calmSteps_cons (fun u wq n' hn hn2 hC hk K hK => ?_) ?_
                  · obtain ⟨hP, hS, hR, hU, h1, h2⟩ := hC
                    clear hk
                    have RR := Lib.hid hR; clear hR
                    go_simp
                    exact hK _ _ _ rfl ⟨hP, hS, RR.out, hU, h1, h2⟩ (grown_belowP _ (Below.refl _ _)) rfl
                  refine calmSteps_cons (fun u wq n' hn hn2 hC hk K hK => ?_) ?_
                  · obtain ⟨hP, hS, hR, hU, h1, h2⟩ := hC
                    clear hk
                    have RR := Lib.hid hR; clear hR
                    go_simp
                    exact hK _ _ _ rfl ⟨hP, hS, RR.out, hU, h1, h2⟩ (grown_belowP _ (Below.refl _ _)) rfl
                  refine calmSteps_cons (fun u wq n' hn hn2 hC hk K hK => ?_) ?_
                  · obtain ⟨hP, hS, hR, hU, h1, h2⟩ := hC
                    simp only [calmKnown, List.getElem?_cons_zero, List.getElem?_cons_succ, and_true, Is, Pure, Option.some.injEq, List.getD_cons_zero, List.getD_cons_succ, List.map_cons, List.map_nil] at hk
                    obtain ⟨h1, h2⟩ := hk
                    simp only [h1, h2] at hK ⊢
                    have H1 := Lib.hid h1; clear h1; have H2 := Lib.hid h2; clear h2
                    have RR := Lib.hid hR; clear hR
                    go_simp
                    exact hK _ _ _ rfl ⟨hP, hS, RR.out, hU, h1, h2⟩ (grown_belowP _ (Below.refl _ _)) rfl
                  refine calmSteps_cons (fun u wq n' hn hn2 hC hk K hK => ?_) ?_
                  · obtain ⟨hP, hS, hR, hU, h1, h2⟩ := hC
                    simp only [calmKnown, List.getElem?_cons_zero, List.getElem?_cons_succ, and_true, Is, Pure, Option.some.injEq, List.getD_cons_zero, List.getD_cons_succ, List.map_cons, List.map_nil] at hk
                    have h3 := hk; clear hk
                    simp only [h3] at hK ⊢
                    have H3 := Lib.hid h3; clear h3
                    have ya := EA _ hP
                    have RR := Lib.hid hR; clear hR
                    go_simp
                    exact hK _ _ _ rfl ⟨hP, hS, RR.out, hU, h1, h2⟩ (grown_belowP _ (Below.refl _ _)) rfl
                  refine calmSteps_cons (fun u wq n' hn hn2 hC hk K hK => ?_) ?_
                  · obtain ⟨hP, hS, hR, hU, h1, h2⟩ := hC
                    clear hk
                    have RR := Lib.hid hR; clear hR
                    go_simp
                    exact hK _ _ _ rfl ⟨hP, hS, RR.out, hU, h1, h2⟩ (grown_belowP _ (Below.refl _ _)) rfl
                  refine calmSteps_cons (fun u wq n' hn hn2 hC hk K hK => ?_) ?_
                  · obtain ⟨hP, hS, hR, hU, h1, h2⟩ := hC
                    clear hk
                    have RR := Lib.hid hR; clear hR
                    go_simp
                    exact hK _ _ _ rfl ⟨hP, hS, RR.out, hU, h1, h2⟩ (grown_belowP _ (Below.refl _ _)) rfl
                  refine calmSteps_cons (fun u wq n' hn hn2 hC hk K hK => ?_) ?_
                  · obtain ⟨hP, hS, hR, hU, h1, h2⟩ := hC
                    simp only [calmKnown, List.getElem?_cons_zero, List.getElem?_cons_succ, and_true, Is, Pure, Option.some.injEq, List.getD_cons_zero, List.getD_cons_succ, List.map_cons, List.map_nil] at hk
                    have h6 := hk; clear hk
                    simp only [h6] at hK ⊢
                    have H6 := Lib.hid h6; clear h6
                    have RR := Lib.hid hR; clear hR
                    go_simp
                    exact hK _ _ _ rfl ⟨hP, hS, RR.out, hU, h1, h2⟩ (grown_belowP _ (Below.refl _ _)) rfl
                  refine calmSteps_cons (fun u wq n' hn hn2 hC hk K hK => ?_) ?_
                  · obtain ⟨hP, hS, hR, hU, h1, h2⟩ := hC
                    simp only [calmKnown, List.getElem?_cons_zero, List.getElem?_cons_succ, and_true, Is, Pure, Option.some.injEq, List.getD_cons_zero, List.getD_cons_succ, List.map_cons, List.map_nil] at hk
                    obtain ⟨h5, h7⟩ := hk
                    simp only [h5, h7] at hK ⊢
                    have H5 := Lib.hid h5; clear h5; have H7 := Lib.hid h7; clear h7
                    have RR := Lib.hid hR; clear hR
                    go_simp
                    exact hK _ _ _ rfl ⟨hP, hS, RR.out, hU, h1, h2⟩ (grown_belowP _ (Below.refl _ _)) rfl
                  refine calmSteps_cons (fun u wq n' hn hn2 hC hk K hK => ?_) ?_
                  · obtain ⟨hP, hS, hR, hU, h1, h2⟩ := hC
                    simp only [calmKnown, List.getElem?_cons_zero, List.getElem?_cons_succ, and_true, Is, Pure, Option.some.injEq, List.getD_cons_zero, List.getD_cons_succ, List.map_cons, List.map_nil] at hk
                    have h8 := hk; clear hk
                    simp only [h8] at hK ⊢
                    have H8 := Lib.hid h8; clear h8
                    have yb := EB _ hP
                    have RR := Lib.hid hR; clear hR
                    go_simp
                    exact hK _ _ _ rfl ⟨hP, hS, RR.out, hU, h1, h2⟩ (grown_belowP _ (Below.refl _ _)) rfl
                  refine calmSteps_cons (fun u wq n' hn hn2 hC hk K hK => ?_) ?_
                  · obtain ⟨hP, hS, hR, hU, h1, h2⟩ := hC
                    simp only [calmKnown, List.getElem?_cons_zero, List.getElem?_cons_succ, and_true, Is, Pure, Option.some.injEq, List.getD_cons_zero, List.getD_cons_succ, List.map_cons, List.map_nil] at hk
                    have h9 := hk; clear hk
                    simp only [h9] at hK ⊢
                    have H9 := Lib.hid h9; clear h9
                    have RR := Lib.hid hR; clear hR
                    go_simp
                    exact hK _ _ _ rfl ⟨hP, hS, RR.out, hU, h1, h2⟩ (grown_belowP _ (Below.refl _ _)) rfl
                  refine calmSteps_cons (fun u wq n' hn hn2 hC hk K hK => ?_) ?_
                  · obtain ⟨hP, hS, hR, hU, h1, h2⟩ := hC
                    simp only [calmKnown, List.getElem?_cons_zero, List.getElem?_cons_succ, and_true, Is, Pure, Option.some.injEq, List.getD_cons_zero, List.getD_cons_succ, List.map_cons, List.map_nil] at hk
                    obtain ⟨h4, h10⟩ := hk
                    simp only [h4, h10] at hK ⊢
                    have H4 := Lib.hid h4; clear h4; have H10 := Lib.hid h10; clear h10
                    have RR := Lib.hid hR; clear hR
                    go_simp
                    exact hK _ _ _ rfl ⟨hP, hS, RR.out, hU, h1, h2⟩ (grown_belowP _ (Below.refl _ _)) rfl
                  refine calmSteps_cons (fun u wq n' hn hn2 hC hk K hK => ?_) ?_
                  · obtain ⟨hP, hS, hR, hU, h1, h2⟩ := hC
                    clear hk
                    have RR := Lib.hid hR; clear hR
                    go_simp
                    exact hK _ _ _ rfl ⟨hP, hS, RR.out, hU, h1, h2⟩ (grown_belowP _ (Below.refl _ _)) rfl
                  refine calmSteps_cons (fun u wq n' hn hn2 hC hk K hK => ?_) ?_
                  · obtain ⟨hP, hS, hR, hU, h1, h2⟩ := hC
                    simp only [calmKnown, List.getElem?_cons_zero, List.getElem?_cons_succ, and_true, Is, Pure, Option.some.injEq, List.getD_cons_zero, List.getD_cons_succ, List.map_cons, List.map_nil] at hk
                    obtain ⟨h11, h12⟩ := hk
                    simp only [h11, h12] at hK ⊢
                    have H11 := Lib.hid h11; clear h11; have H12 := Lib.hid h12; clear h12
                    have RR := Lib.hid hR; clear hR
                    go_simp
                    exact hK _ _ _ rfl ⟨hP, hS, RR.out, hU, h1, h2⟩ (grown_belowP _ (Below.refl _ _)) rfl
                  refine calmSteps_cons (fun u wq n' hn hn2 hC hk K hK => ?_) ?_
                  · obtain ⟨hP, hS, hR, hU, h1, h2⟩ := hC
                    simp only [calmKnown, List.getElem?_cons_zero, List.getElem?_cons_succ, and_true, Is, Pure, Option.some.injEq, List.getD_cons_zero, List.getD_cons_succ, List.map_cons, List.map_nil] at hk
                    have h13 := hk; clear hk
                    simp only [h13] at hK ⊢
                    have H13 := Lib.hid h13; clear h13
                    obtain rfl : n' = 0 := Nat.le_zero.1 (hn2 0 15 rfl (by kernel_rfl))
                    have hr := hR rfl
                    have hXl : ∀ k, (Value.slice (some ⟨g, 0, none⟩) (q + 1) c3).ownBlock = some k → k < wq.heap.size := fun k hk => (World.ownsRow.lt hr k hk).2
                    have HR := Lib.hid hr; clear hr hR
                    go_simp
                    exact hK _ _ _ rfl ⟨hP.alloc hP.size _, by simp; omega, fun _ => World.ownsRow.alloc HR.out _, hU, fun h => absurd h (by decide), fun h => absurd h (by decide)⟩ (grown_belowP _ ((Below.refl _ _).alloc (Nat.le_refl _) _)) ⟨wq.heap.size, rfl, fun e => absurd (hXl _ e.symm) (by omega), Blk.new _ _ _⟩
                  refine calmSteps_cons (fun u wq n' hn hn2 hC hk K hK => ?_) ?_
                  · obtain ⟨hP, hS, hR, hU, h1, h2⟩ := hC
                    simp only [calmKnown, List.getElem?_cons_zero, List.getElem?_cons_succ, and_true, Is, Pure, Option.some.injEq, List.getD_cons_zero, List.getD_cons_succ, List.map_cons, List.map_nil] at hk
                    obtain ⟨h0, ⟨g5, h14, hgX, hgB⟩⟩ := hk
                    simp only [h0, h14] at hK ⊢
                    have H0 := Lib.hid h0; clear h0; have H14 := Lib.hid h14; clear h14
                    obtain rfl := hn 0 rfl
                    have hr := hR rfl
                    refine calm_opP (by rfl) ?_
                    refine wp_append_exact _ _ 52 rfl w2.heap.size 57 i0 (.agg #[.int .i64 0, .int .i64 0, .int .i64 0]) 3 24 Try.underlying52 hif hz0 hz1 hz2 rfl (by decide) (.slice (some ⟨g, 0, none⟩) (q + 1) c3) (q + 1) (cellsP (a' ++ [(⟨xl, xh, n⟩ : Pc)])) rfl hr (some ⟨g5, 0, none⟩) 1 1 [.int .i64 a, .int .i64 (b - 1), .int .i64 n] rfl rfl (fun _ => ⟨_, rfl, World.news_of_block (t := 57) (fr := (0, 0)) hgB⟩) (by simp [Value.oneCell']) (by unfold maxLen; omega) (by omega) hP.size ?_
                    intro A' c' w' hown hgr _
                    have hb9 : Below w2.heap.size w2 w' := by rcases hgr with h | ⟨g0, cap0, e, -, -, h⟩; (exact hP.grown h hP.size (fun k hk => by cases hk)); (exact hP.grown h hP.size (fun k hk => by injection hk with hk; subst hk; exact (World.ownsRow.lt hr g0 (by rw [e]; rfl)).1))
                    have hg9 : wq.grownBy w' ((Value.slice (some ⟨g, 0, none⟩) (q + 1) c3).ownBlock) := by rcases hgr with h | ⟨g0, cap0, e, -, -, h⟩; (exact ⟨h.os, h.tape, h.output, h.size, fun k hk hn => h.block k hk (by simp)⟩); (rw [e]; exact h)
                    exact hK _ _ _ rfl ⟨hb9, Nat.le_trans hS hg9.size, fun h => absurd h (by decide), fun _ => hU (by decide), fun _ => ⟨A', c', rfl, hown⟩, fun h => absurd h (by decide)⟩ hg9 trivial
                  refine calmSteps_cons (fun u wq n' hn hn2 hC hk K hK => ?_) ?_
                  · obtain ⟨hP, hS, hR, hU, h1, h2⟩ := hC
                    simp only [calmKnown, List.getElem?_cons_zero, List.getElem?_cons_succ, and_true, Is, Pure, Option.some.injEq, List.getD_cons_zero, List.getD_cons_succ, List.map_cons, List.map_nil] at hk
                    have _p := hk; clear hk
                    obtain rfl := hn 1 rfl
                    obtain ⟨A1, c1, e1, e3⟩ := h1 rfl
                    have e1 : u 15 = .slice A1 ((q + 1) + 1) c1 := Option.some.inj (show some (u 15) = _ from e1)
                    simp only [e1] at hK ⊢
                    have E9 := Lib.hid e1; clear e1
                    go_simp
                    exact hK _ _ _ rfl ⟨hP, hS, fun h => absurd h (by decide), fun h => absurd h (by decide), fun h => absurd h (by decide), fun _ => ⟨A1, c1, rfl, e3⟩⟩ (grown_belowP _ (Below.refl _ _)) trivial
                  exact calmSteps_nil
                · intro u w9 hC hF
                  obtain ⟨hP, -, -, -, -, h2⟩ := hC
                  obtain ⟨A9, c9, e1, e3⟩ := h2 (by decide)
                  have e1 : u 16 = .slice A9 ((q + 1) + 1) c9 := Option.some.inj (show some (u 16) = _ from e1)
                  simp only [e1]
                  clear e1 hF
                  have hr9 : RowP w9 w2.heap.size (.slice A9 ((q + 1) + 1) c9) ((a' ++ [(⟨xl, xh, n⟩ : Pc)]) ++ [⟨a, b - 1, n⟩]) := by unfold RowP; rw [show ((a' ++ [(⟨xl, xh, n⟩ : Pc)]) ++ [(⟨a, b - 1, n⟩ : Pc)]).length = (q + 1) + 1 from by rw [HM.out]; simp, cellsP_snoc]; exact e3
                  have R9 := Lib.hid hr9; clear e3 hr9
                  go_wp2
                  go_roundg (cs.length - (k + 1))
                  case measure => omega
                  case rel => exact ⟨k + 1, by omega, by omega, by go_num, by rw [HAD.out]; exact R9.out, hP⟩
            · have g4 : decide (xn = n) = false := decide_eq_false q1
              have g4b : (xn == n) = false := by simpa using q1
              have had : rpAt zs cs (k + 1) = (a' ++ [(⟨xl, xh, xn⟩ : Pc)]) ++ [⟨a, b - 1, n⟩] := by rw [HST2.out, if_neg (fun h => q1 h.2.1)]
              have HAD := Lib.hid had; clear had
              go_wp2_with fail
              go_quiet (fail)
              go_wp2_with fail
              refine' wp_region_calmS (by kernel_rfl) (fun n9 us w' => Below w2.heap.size w2 w' ∧ w3.heap.size ≤ w'.heap.size ∧ (n9 = 0 → w'.ownsRow w2.heap.size 57 3 (.slice (some ⟨g, 0, none⟩) (q + 1) c3) (q + 1) (cellsP (a' ++ [(⟨xl, xh, xn⟩ : Pc)]))) ∧ (n9 ≤ 1 → us[1]? = some (.slice (some ⟨g, 0, none⟩) (q + 1) c3)) ∧ (n9 = 1 → ∃ A' c', us[0]? = some (.slice A' ((q + 1) + 1) c') ∧ w'.ownsRow w2.heap.size 57 3 (.slice A' ((q + 1) + 1) c') ((q + 1) + 1) (cellsP (a' ++ [(⟨xl, xh, xn⟩ : Pc)]) ++ [.int .i64 a, .int .i64 (b - 1), .int .i64 n])) ∧ (n9 = 2 → ∃ A' c', us[1]? = some (.slice A' ((q + 1) + 1) c') ∧ w'.ownsRow w2.heap.size 57 3 (.slice A' ((q + 1) + 1) c') ((q + 1) + 1) (cellsP (a' ++ [(⟨xl, xh, xn⟩ : Pc)]) ++ [.int .i64 a, .int .i64 (b - 1), .int .i64 n]))) (fun w w' => w.grownBy w' ((Value.slice (some ⟨g, 0, none⟩) (q + 1) c3).ownBlock)) [(Is (.slice (some ⟨g, 0, none⟩) (q + 1) c3)), (Is (.slice (some ⟨bl, off, none⟩) cs.length c2)), (Is (.int .i64 (k : Int))), (Is (.pointer (some ⟨bl, off + k, none⟩))), (Is (.int .i64 a)), (Is (.slice (some ⟨bl, off, none⟩) cs.length c2)), (Is (.int .i64 (k : Int))), (Is (.int .i64 ((k : Int) + 1))), (Is (.pointer (some ⟨bl, off + (k + 1), none⟩))), (Is (.int .i64 b)), (Is (.int .i64 (b - 1))), (Is (.agg #[.int .i64 a, .int .i64 (b - 1)])), (Is (.int .i64 n)), (Is (.agg #[.int .i64 a, .int .i64 (b - 1), .int .i64 n])), (OneP ((Value.slice (some ⟨g, 0, none⟩) (q + 1) c3).ownBlock) a (b - 1) n), (fun _ _ _ => True), (fun _ _ _ => True)] [[], [], [], [1, 2], [3], [], [], [6], [5, 7], [8], [9], [4, 10], [], [11, 12], [13], [0, 14], [15]] [15, 16] [15, 16] rfl (by kernel_rfl) (fun u => by (simp only [calmPut, Act.put, List.setIfInBounds_toArray, List.set_cons_zero, List.set_cons_succ, Nat.zero_add, Nat.reduceAdd]; rfl)) ?_ (calmKeep_cons keep_is' (calmKeep_cons keep_is' (calmKeep_cons keep_is' (calmKeep_cons keep_is' (calmKeep_cons keep_is' (calmKeep_cons keep_is' (calmKeep_cons keep_is' (calmKeep_cons keep_is' (calmKeep_cons keep_is' (calmKeep_cons keep_is' (calmKeep_cons keep_is' (calmKeep_cons keep_is' (calmKeep_cons keep_is' (calmKeep_cons keep_is' (calmKeep_cons keep_oneP (calmKeep_cons keep_triv (calmKeep_cons keep_triv (calmKeep_nil)))))))))))))))))) ?_ ?_
              · skip
                exact ⟨(below_drewN K3 _).drew, Nat.le_refl _, fun _ => (by have h := HR3.out; unfold RowP at h; rw [show (a' ++ [(⟨xl, xh, xn⟩ : Pc)]).length = q + 1 from by rw [HM.out]; simp] at h; exact h), fun _ => rfl, fun h => absurd h (by decide), fun h => absurd h (by decide)⟩
              · skip
                refine calmSteps_cons (fun u wq n' hn hn2 hC hk K hK => ?_) ?_
                · obtain ⟨hP, hS, hR, hU, h1, h2⟩ := hC
                  clear hk
                  obtain rfl : n' = 0 := Nat.le_zero.1 (hn2 0 15 rfl (by kernel_rfl))
                  have hu : u 16 = .slice (some ⟨g, 0, none⟩) (q + 1) c3 := Option.some.inj (show some (u 16) = _ from hU (by decide))
                  simp only [hu] at hK ⊢
                  have HU := Lib.hid hu; clear hu
                  have RR := Lib.hid hR; clear hR
                  go_simp
                  exact hK _ _ _ rfl ⟨hP, hS, RR.out, hU, h1, h2⟩ (grown_belowP _ (Below.refl _ _)) rfl
                refine calmSteps_cons (fun u wq n' hn hn2 hC hk K hK => ?_) ?_
                · obtain ⟨hP, hS, hR, hU, h1, h2⟩ := hC
                  clear hk
                  have RR := Lib.hid hR; clear hR
                  go_simp
                  exact hK _ _ _ rfl ⟨hP, hS, RR.out, hU, h1, h2⟩ (grown_belowP _ (Below.refl _ _)) rfl
                refine calmSteps_cons (fun u wq n' hn hn2 hC hk K hK => ?_) ?_
                · obtain ⟨hP, hS, hR, hU, h1, h2⟩ := hC
                  clear hk
                  have RR := Lib.hid hR; clear hR
                  go_simp
                  exact hK _ _ _ rfl ⟨hP, hS, RR.out, hU, h1, h2⟩ (grown_belowP _ (Below.refl _ _)) rfl
                refine calmSteps_cons (fun u wq n' hn hn2 hC hk K hK => ?_) ?_
                · obtain ⟨hP, hS, hR, hU, h1, h2⟩ := hC
                  simp only [calmKnown, List.getElem?_cons_zero, List.getElem?_cons_succ, and_true, Is, Pure, Option.some.injEq, List.getD_cons_zero, List.getD_cons_succ, List.map_cons, List.map_nil] at hk
                  obtain ⟨h1, h2⟩ := hk
                  simp only [h1, h2] at hK ⊢
                  have H1 := Lib.hid h1; clear h1; have H2 := Lib.hid h2; clear h2
                  have RR := Lib.hid hR; clear hR
                  go_simp
                  exact hK _ _ _ rfl ⟨hP, hS, RR.out, hU, h1, h2⟩ (grown_belowP _ (Below.refl _ _)) rfl
                refine calmSteps_cons (fun u wq n' hn hn2 hC hk K hK => ?_) ?_
                · obtain ⟨hP, hS, hR, hU, h1, h2⟩ := hC
                  simp only [calmKnown, List.getElem?_cons_zero, List.getElem?_cons_succ, and_true, Is, Pure, Option.some.injEq, List.getD_cons_zero, List.getD_cons_succ, List.map_cons, List.map_nil] at hk
                  have h3 := hk; clear hk
                  simp only [h3] at hK ⊢
                  have H3 := Lib.hid h3; clear h3
                  have ya := EA _ hP
                  have RR := Lib.hid hR; clear hR
                  go_simp
                  exact hK _ _ _ rfl ⟨hP, hS, RR.out, hU, h1, h2⟩ (grown_belowP _ (Below.refl _ _)) rfl
                refine calmSteps_cons (fun u wq n' hn hn2 hC hk K hK => ?_) ?_
                · obtain ⟨hP, hS, hR, hU, h1, h2⟩ := hC
                  clear hk
                  have RR := Lib.hid hR; clear hR
                  go_simp
                  exact hK _ _ _ rfl ⟨hP, hS, RR.out, hU, h1, h2⟩ (grown_belowP _ (Below.refl _ _)) rfl
                refine calmSteps_cons (fun u wq n' hn hn2 hC hk K hK => ?_) ?_
                · obtain ⟨hP, hS, hR, hU, h1, h2⟩ := hC
                  clear hk
                  have RR := Lib.hid hR; clear hR
                  go_simp
                  exact hK _ _ _ rfl ⟨hP, hS, RR.out, hU, h1, h2⟩ (grown_belowP _ (Below.refl _ _)) rfl
                refine calmSteps_cons (fun u wq n' hn hn2 hC hk K hK => ?_) ?_
                · obtain ⟨hP, hS, hR, hU, h1, h2⟩ := hC
                  simp only [calmKnown, List.getElem?_cons_zero, List.getElem?_cons_succ, and_true, Is, Pure, Option.some.injEq, List.getD_cons_zero, List.getD_cons_succ, List.map_cons, List.map_nil] at hk
                  have h6 := hk; clear hk
                  simp only [h6] at hK ⊢
                  have H6 := Lib.hid h6; clear h6
                  have RR := Lib.hid hR; clear hR
                  go_simp
                  exact hK _ _ _ rfl ⟨hP, hS, RR.out, hU, h1, h2⟩ (grown_belowP _ (Below.refl _ _)) rfl
                refine calmSteps_cons (fun u wq n' hn hn2 hC hk K hK => ?_) ?_
                · obtain ⟨hP, hS, hR, hU, h1, h2⟩ := hC
                  simp only [calmKnown, List.getElem?_cons_zero, List.getElem?_cons_succ, and_true, Is, Pure, Option.some.injEq, List.getD_cons_zero, List.getD_cons_succ, List.map_cons, List.map_nil] at hk
                  obtain ⟨h5, h7⟩ := hk
                  simp only [h5, h7] at hK ⊢
                  have H5 := Lib.hid h5; clear h5; have H7 := Lib.hid h7; clear h7
                  have RR := Lib.hid hR; clear hR
                  go_simp
                  exact hK _ _ _ rfl ⟨hP, hS, RR.out, hU, h1, h2⟩ (grown_belowP _ (Below.refl _ _)) rfl
                refine calmSteps_cons (fun u wq n' hn hn2 hC hk K hK => ?_) ?_
                · obtain ⟨hP, hS, hR, hU, h1, h2⟩ := hC
                  simp only [calmKnown, List.getElem?_cons_zero, List.getElem?_cons_succ, and_true, Is, Pure, Option.some.injEq, List.getD_cons_zero, List.getD_cons_succ, List.map_cons, List.map_nil] at hk
                  have h8 := hk; clear hk
                  simp only [h8] at hK ⊢
                  have H8 := Lib.hid h8; clear h8
                  have yb := EB _ hP
                  have RR := Lib.hid hR; clear hR
                  go_simp
                  exact hK _ _ _ rfl ⟨hP, hS, RR.out, hU, h1, h2⟩ (grown_belowP _ (Below.refl _ _)) rfl
                refine calmSteps_cons (fun u wq n' hn hn2 hC hk K hK => ?_) ?_
                · obtain ⟨hP, hS, hR, hU, h1, h2⟩ := hC
                  simp only [calmKnown, List.getElem?_cons_zero, List.getElem?_cons_succ, and_true, Is, Pure, Option.some.injEq, List.getD_cons_zero, List.getD_cons_succ, List.map_cons, List.map_nil] at hk
                  have h9 := hk; clear hk
                  simp only [h9] at hK ⊢
                  have H9 := Lib.hid h9; clear h9
                  have RR := Lib.hid hR; clear hR
                  go_simp
                  exact hK _ _ _ rfl ⟨hP, hS, RR.out, hU, h1, h2⟩ (grown_belowP _ (Below.refl _ _)) rfl
                refine calmSteps_cons (fun u wq n' hn hn2 hC hk K hK => ?_) ?_
                · obtain ⟨hP, hS, hR, hU, h1, h2⟩ := hC
                  simp only [calmKnown, List.getElem?_cons_zero, List.getElem?_cons_succ, and_true, Is, Pure, Option.some.injEq, List.getD_cons_zero, List.getD_cons_succ, List.map_cons, List.map_nil] at hk
                  obtain ⟨h4, h10⟩ := hk
                  simp only [h4, h10] at hK ⊢
                  have H4 := Lib.hid h4; clear h4; have H10 := Lib.hid h10; clear h10
                  have RR := Lib.hid hR; clear hR
                  go_simp
                  exact hK _ _ _ rfl ⟨hP, hS, RR.out, hU, h1, h2⟩ (grown_belowP _ (Below.refl _ _)) rfl
                refine calmSteps_cons (fun u wq n' hn hn2 hC hk K hK => ?_) ?_
                · obtain ⟨hP, hS, hR, hU, h1, h2⟩ := hC
                  clear hk
                  have RR := Lib.hid hR; clear hR
                  go_simp
                  exact hK _ _ _ rfl ⟨hP, hS, RR.out, hU, h1, h2⟩ (grown_belowP _ (Below.refl _ _)) rfl
                refine calmSteps_cons (fun u wq n' hn hn2 hC hk K hK => ?_) ?_
                · obtain ⟨hP, hS, hR, hU, h1, h2⟩ := hC
                  simp only [calmKnown, List.getElem?_cons_zero, List.getElem?_cons_succ, and_true, Is, Pure, Option.some.injEq, List.getD_cons_zero, List.getD_cons_succ, List.map_cons, List.map_nil] at hk
                  obtain ⟨h11, h12⟩ := hk
                  simp only [h11, h12] at hK ⊢
                  have H11 := Lib.hid h11; clear h11; have H12 := Lib.hid h12; clear h12
                  have RR := Lib.hid hR; clear hR
                  go_simp
                  exact hK _ _ _ rfl ⟨hP, hS, RR.out, hU, h1, h2⟩ (grown_belowP _ (Below.refl _ _)) rfl
                refine calmSteps_cons (fun u wq n' hn hn2 hC hk K hK => ?_) ?_
                · obtain ⟨hP, hS, hR, hU, h1, h2⟩ := hC
                  simp only [calmKnown, List.getElem?_cons_zero, List.getElem?_cons_succ, and_true, Is, Pure, Option.some.injEq, List.getD_cons_zero, List.getD_cons_succ, List.map_cons, List.map_nil] at hk
                  have h13 := hk; clear hk
                  simp only [h13] at hK ⊢
                  have H13 := Lib.hid h13; clear h13
                  obtain rfl : n' = 0 := Nat.le_zero.1 (hn2 0 15 rfl (by kernel_rfl))
                  have hr := hR rfl
                  have hXl : ∀ k, (Value.slice (some ⟨g, 0, none⟩) (q + 1) c3).ownBlock = some k → k < wq.heap.size := fun k hk => (World.ownsRow.lt hr k hk).2
                  have HR := Lib.hid hr; clear hr hR
                  go_simp
                  exact hK _ _ _ rfl ⟨hP.alloc hP.size _, by simp; omega, fun _ => World.ownsRow.alloc HR.out _, hU, fun h => absurd h (by decide), fun h => absurd h (by decide)⟩ (grown_belowP _ ((Below.refl _ _).alloc (Nat.le_refl _) _)) ⟨wq.heap.size, rfl, fun e => absurd (hXl _ e.symm) (by omega), Blk.new _ _ _⟩
                refine calmSteps_cons (fun u wq n' hn hn2 hC hk K hK => ?_) ?_
                · obtain ⟨hP, hS, hR, hU, h1, h2⟩ := hC
                  simp only [calmKnown, List.getElem?_cons_zero, List.getElem?_cons_succ, and_true, Is, Pure, Option.some.injEq, List.getD_cons_zero, List.getD_cons_succ, List.map_cons, List.map_nil] at hk
                  obtain ⟨h0, ⟨g5, h14, hgX, hgB⟩⟩ := hk
                  simp only [h0, h14] at hK ⊢
                  have H0 := Lib.hid h0; clear h0; have H14 := Lib.hid h14; clear h14
                  obtain rfl := hn 0 rfl
                  have hr := hR rfl
                  refine calm_opP (by rfl) ?_
                  refine wp_append_exact _ _ 52 rfl w2.heap.size 57 i0 (.agg #[.int .i64 0, .int .i64 0, .int .i64 0]) 3 24 Try.underlying52 hif hz0 hz1 hz2 rfl (by decide) (.slice (some ⟨g, 0, none⟩) (q + 1) c3) (q + 1) (cellsP (a' ++ [(⟨xl, xh, xn⟩ : Pc)])) rfl hr (some ⟨g5, 0, none⟩) 1 1 [.int .i64 a, .int .i64 (b - 1), .int .i64 n] rfl rfl (fun _ => ⟨_, rfl, World.news_of_block (t := 57) (fr := (0, 0)) hgB⟩) (by simp [Value.oneCell']) (by unfold maxLen; omega) (by omega) hP.size ?_
                  intro A' c' w' hown hgr _
                  have hb9 : Below w2.heap.size w2 w' := by rcases hgr with h | ⟨g0, cap0, e, -, -, h⟩; (exact hP.grown h hP.size (fun k hk => by cases hk)); (exact hP.grown h hP.size (fun k hk => by injection hk with hk; subst hk; exact (World.ownsRow.lt hr g0 (by rw [e]; rfl)).1))
                  have hg9 : wq.grownBy w' ((Value.slice (some ⟨g, 0, none⟩) (q + 1) c3).ownBlock) := by rcases hgr with h | ⟨g0, cap0, e, -, -, h⟩; (exact ⟨h.os, h.tape, h.output, h.size, fun k hk hn => h.block k hk (by simp)⟩); (rw [e]; exact h)
                  exact hK _ _ _ rfl ⟨hb9, Nat.le_trans hS hg9.size, fun h => absurd h (by decide), fun _ => hU (by decide), fun _ => ⟨A', c', rfl, hown⟩, fun h => absurd h (by decide)⟩ hg9 trivial
                refine calmSteps_cons (fun u wq n' hn hn2 hC hk K hK => ?_) ?_
                · obtain ⟨hP, hS, hR, hU, h1, h2⟩ := hC
                  simp only [calmKnown, List.getElem?_cons_zero, List.getElem?_cons_succ, and_true, Is, Pure, Option.some.injEq, List.getD_cons_zero, List.getD_cons_succ, List.map_cons, List.map_nil] at hk
                  have _p := hk; clear hk
                  obtain rfl := hn 1 rfl
                  obtain ⟨A1, c1, e1, e3⟩ := h1 rfl
                  have e1 : u 15 = .slice A1 ((q + 1) + 1) c1 := Option.some.inj (show some (u 15) = _ from e1)
                  simp only [e1] at hK ⊢
                  have E9 := Lib.hid e1; clear e1
                  go_simp
                  exact hK _ _ _ rfl ⟨hP, hS, fun h => absurd h (by decide), fun h => absurd h (by decide), fun h => absurd h (by decide), fun _ => ⟨A1, c1, rfl, e3⟩⟩ (grown_belowP _ (Below.refl _ _)) trivial
                exact calmSteps_nil
              · intro u w9 hC hF
                obtain ⟨hP, -, -, -, -, h2⟩ := hC
                obtain ⟨A9, c9, e1, e3⟩ := h2 (by decide)
                have e1 : u 16 = .slice A9 ((q + 1) + 1) c9 := Option.some.inj (show some (u 16) = _ from e1)
                simp only [e1]
                clear e1 hF
                have hr9 : RowP w9 w2.heap.size (.slice A9 ((q + 1) + 1) c9) ((a' ++ [(⟨xl, xh, xn⟩ : Pc)]) ++ [⟨a, b - 1, n⟩]) := by unfold RowP; rw [show ((a' ++ [(⟨xl, xh, xn⟩ : Pc)]) ++ [(⟨a, b - 1, n⟩ : Pc)]).length = (q + 1) + 1 from by rw [HM.out]; simp, cellsP_snoc]; exact e3
                have R9 := Lib.hid hr9; clear e3 hr9
                go_wp2
                go_roundg (cs.length - (k + 1))
                case measure => omega
                case rel => exact ⟨k + 1, by omega, by omega, by go_num, by rw [HAD.out]; exact R9.out, hP⟩
      · have gk : decide (((k + 1 : Nat) : Int) < (cs.length : Int)) = false := decide_eq_false (by omega)
        have gk2 : decide ((k : Int) + 1 < (cs.length : Int)) = false := decide_eq_false (by omega)
        have hkk : k = cs.length - 1 := by omega
        obtain ⟨l1, l2⟩ := HLAW.out
        rw [← hkk, hout] at l1 l2
        have hpc := pcs_of_row HROW.out (by omega)
        have HPC := Lib.hid hpc; have HL1 := Lib.hid l1; have HL2 := Lib.hid l2; clear hpc l1 l2 hout
        go_wp2
        go_ret2
        exact ⟨A3, c3, out, by rw [HC0.out]; rfl, HPC.out, .inr ⟨HC0.out, HL1.out, HL2.out, by omega⟩, by (repeat' (first | (with_reducible exact KW) | (with_reducible refine Below.setCell ?_ ?_ _) | (with_reducible refine Below.alloc ?_ ?_ _) | (with_reducible refine Below.drew ?_) | (with_reducible refine below_drewN ?_ _))) <;> (first | omega | (simp <;> omega))⟩
  · obtain ⟨c, hc⟩ : ∃ c, ckE zs = c := ⟨_, rfl⟩
    have hci := ckE_in zs
    have HB := Lib.hid hc0
    rw [hc] at hc0 hci
    simp only [hc] at HC
    have g0 : decide (c = 0) = false := decide_eq_false hc0
    have g0b : (c == 0) = false := by simpa using hc0
    have g0c : (c != 0) = true := by simpa using hc0
    have HCC := Lib.hid hc; clear h hc hc0
    go_enter Try.func38, Try.ntmps38
    go_wp2_with fail
    refine (HC.out _ (by (repeat' (first | (with_reducible exact Below.refl _ _) | (with_reducible refine Below.setCell ?_ ?_ _) | (with_reducible refine Below.alloc ?_ ?_ _) | (with_reducible refine Below.drew ?_) | (with_reducible refine below_drewN ?_ _))) <;> (first | omega | (simp <;> omega)))).mono ?_
    rintro e w1 ⟨rfl, hb1⟩
    have K1 : Below w.heap.size w w1 := kept_call hb1 (by (repeat' (first | (with_reducible exact Below.refl _ _) | (with_reducible refine Below.setCell ?_ ?_ _) | (with_reducible refine Below.alloc ?_ ?_ _) | (with_reducible refine Below.drew ?_) | (with_reducible refine below_drewN ?_ _))) <;> (first | omega | (simp <;> omega)))
    have Z1 : w.heap.size ≤ w1.heap.size := K1.size
    clear hb1
    go_wp2
    go_ret2
    exact ⟨none, 0, [], by rw [HCC.out]; rfl, pcs_nil, .inl ⟨HB.out, rfl⟩, by (repeat' (first | (with_reducible exact K1) | (with_reducible refine Below.setCell ?_ ?_ _) | (with_reducible refine Below.alloc ?_ ?_ _) | (with_reducible refine Below.drew ?_) | (with_reducible refine below_drewN ?_ _))) <;> (first | omega | (simp <;> omega))⟩
end Go.Proofs.Ytlfkkfdolnkjfaa
