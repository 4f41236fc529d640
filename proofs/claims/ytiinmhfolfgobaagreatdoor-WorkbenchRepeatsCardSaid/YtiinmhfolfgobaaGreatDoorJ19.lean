/- Texts joined: QrI, Common, RLists, RSwA, RSwB, RSwC -/
import Derived.Deep.DeepCutAuto
import Derived.Deep.LoopGhost
import Derived.BigQuiet
import Derived.Deep.QuietTactic
import Derived.Deep.RegionWith
import Derived.Test.YtiinmhfolfgobaaGreatDoorJ8
import Derived.Test.YtiinmhfolfgobaaGreatDoorJ9
import Derived.Test.YtiinmhfolfgobaaGreatDoorJ18
import Derived.Test.YtiinmhfolfgobaaGreatDoorJ11
import Derived.Test.YtiinmhfolfgobaaGreatDoorJ10
import Derived.Test.YtiinmhfolfgobaaGreatDoorRUnW
namespace Go.Proofs.YtiinmhfolfgobaaGreatDoor
open Go.RowKit Go.Shelf Go.Sort
set_option linter.unusedSimpArgs false
set_option linter.unusedVariables false

def Hu (zs : List (Int × Int)) (n x y : Int) (b : Bool) : Prop := ∃ us, LX zs n us ∧ ((us = [] ∧ x = 0 ∧ y = 0 ∧ b = false) ∨ (0 < us.length ∧ x = (us.getD 0 (0, 0)).1 ∧ y = (lastS us).2 ∧ b = true))
def HuR (w : World) (zs : List (Int × Int)) (n : Int) (f : Int → Int → Bool → Value) (e : Ending) (w' : World) : Prop := ∃ (x y : Int) (b : Bool), e = .returned (f x y b) ∧ Hu zs n x y b ∧ Below w.heap.size w w'
def hullT (x y : Int) (b : Bool) : Value := .tuple #[.agg #[.int .i64 x, .int .i64 y], .bool b]
theorem hu_ax {zs : List (Int × Int)} {f x y : Int} {b : Bool} (h0 : qE zs f = 0) (h : Hu zs (zs.length - f) x y b) : AX zs f x y (if b then 0 else 21) := by
  obtain ⟨us, h1, ⟨h2, h3, h4, h5⟩ | ⟨h2, h3, h4, h5⟩⟩ := h
  · exact .inr ⟨h0, us, h1, .inl ⟨h2, h3, h4, by rw [h5]; rfl⟩⟩
  · exact .inr ⟨h0, us, h1, .inr ⟨h2, h3, h4, by rw [h5]; rfl⟩⟩
set_option maxRecDepth 100000 in
set_option maxHeartbeats 2000000 in
theorem qcheck_any (A : Option Addr) (len cap : Nat) (zs : List (Int × Int)) (f : Int) (w : World) (h : SpansAt w A len zs) :
    Calls Tryz.prog 74 #[.slice A len cap, .int .i64 f] w (RB w (.int .i64 (qE zs f))) := by
  obtain rfl := h.1
  have R := Lib.hid (fun W (hW : Below w.heap.size w W) => scount_any A zs.length cap zs 0 W (h.below hW))
  clear h
  obtain ⟨ce, hce⟩ : ∃ ce, ckE zs = ce := ⟨_, rfl⟩
  rw [hce] at R
  by_cases h0 : ce = 0
  · subst h0
    have hl := (ckE_ok hce).1
    by_cases h1 : f < 0 ∨ (zs.length : Int) ≤ 2 * f
    · rw [qE_range hce h1]
      have HCE := Lib.hid hce; clear hce
      by_cases h2 : f < 0
      · have g1 : decide (f < 0) = true := decide_eq_true h2
        clear h1
        go_enter Tryz.func74, Tryz.ntmps74
        go_wp2_with fail
        refine (R.out _ (by (repeat' (first | (with_reducible exact Below.refl _ _) | (with_reducible refine Below.setCell ?_ ?_ _) | (with_reducible refine Below.alloc ?_ ?_ _) | (with_reducible refine Below.drew ?_) | (with_reducible refine below_drewN ?_ _))) <;> (first | omega | (simp <;> omega)))).mono ?_
        rintro e w1 ⟨rfl, hb1⟩
        have K1 : Below w.heap.size w w1 := kept_call hb1 (by (repeat' (first | (with_reducible exact Below.refl _ _) | (with_reducible refine Below.setCell ?_ ?_ _) | (with_reducible refine Below.alloc ?_ ?_ _) | (with_reducible refine Below.drew ?_) | (with_reducible refine below_drewN ?_ _))) <;> (first | omega | (simp <;> omega)))
        have Z1 : w.heap.size ≤ w1.heap.size := K1.size
        clear hb1
        go_wp2
        go_ret
        exact ⟨rfl, (by (repeat' (first | (with_reducible exact K1) | (with_reducible refine Below.setCell ?_ ?_ _) | (with_reducible refine Below.alloc ?_ ?_ _) | (with_reducible refine Below.drew ?_) | (with_reducible refine below_drewN ?_ _))) <;> (first | omega | (simp <;> omega)))⟩
      · have g1 : decide (f < 0) = false := decide_eq_false h2
        have h3 : (zs.length : Int) ≤ 2 * f := by omega
        clear h1
        by_cases h4 : (zs.length : Int) < f
        · have g2 : decide ((zs.length : Int) < f) = true := decide_eq_true h4
          go_enter Tryz.func74, Tryz.ntmps74
          go_wp2_with fail
          refine (R.out _ (by (repeat' (first | (with_reducible exact Below.refl _ _) | (with_reducible refine Below.setCell ?_ ?_ _) | (with_reducible refine Below.alloc ?_ ?_ _) | (with_reducible refine Below.drew ?_) | (with_reducible refine below_drewN ?_ _))) <;> (first | omega | (simp <;> omega)))).mono ?_
          rintro e w1 ⟨rfl, hb1⟩
          have K1 : Below w.heap.size w w1 := kept_call hb1 (by (repeat' (first | (with_reducible exact Below.refl _ _) | (with_reducible refine Below.setCell ?_ ?_ _) | (with_reducible refine Below.alloc ?_ ?_ _) | (with_reducible refine Below.drew ?_) | (with_reducible refine below_drewN ?_ _))) <;> (first | omega | (simp <;> omega)))
          have Z1 : w.heap.size ≤ w1.heap.size := K1.size
          clear hb1
          go_wp2
          go_ret
          exact ⟨rfl, (by (repeat' (first | (with_reducible exact K1) | (with_reducible refine Below.setCell ?_ ?_ _) | (with_reducible refine Below.alloc ?_ ?_ _) | (with_reducible refine Below.drew ?_) | (with_reducible refine below_drewN ?_ _))) <;> (first | omega | (simp <;> omega)))⟩
        · have g2 : decide ((zs.length : Int) < f) = false := decide_eq_false h4
          have wf : IntKind.i64.wrap (2 * f) = 2 * f := IntWalk.i64_in _ (by omega)
          have g3 : decide ((zs.length : Int) ≤ 2 * f) = true := decide_eq_true h3
          clear h3
          go_enter Tryz.func74, Tryz.ntmps74
          go_wp2_with fail
          refine (R.out _ (by (repeat' (first | (with_reducible exact Below.refl _ _) | (with_reducible refine Below.setCell ?_ ?_ _) | (with_reducible refine Below.alloc ?_ ?_ _) | (with_reducible refine Below.drew ?_) | (with_reducible refine below_drewN ?_ _))) <;> (first | omega | (simp <;> omega)))).mono ?_
          rintro e w1 ⟨rfl, hb1⟩
          have K1 : Below w.heap.size w w1 := kept_call hb1 (by (repeat' (first | (with_reducible exact Below.refl _ _) | (with_reducible refine Below.setCell ?_ ?_ _) | (with_reducible refine Below.alloc ?_ ?_ _) | (with_reducible refine Below.drew ?_) | (with_reducible refine below_drewN ?_ _))) <;> (first | omega | (simp <;> omega)))
          have Z1 : w.heap.size ≤ w1.heap.size := K1.size
          clear hb1
          go_wp2
          go_ret
          exact ⟨rfl, (by (repeat' (first | (with_reducible exact K1) | (with_reducible refine Below.setCell ?_ ?_ _) | (with_reducible refine Below.alloc ?_ ?_ _) | (with_reducible refine Below.drew ?_) | (with_reducible refine below_drewN ?_ _))) <;> (first | omega | (simp <;> omega)))⟩
    · rw [qE_ok hce h1]
      have HCE := Lib.hid hce; clear hce
      have g1 : decide (f < 0) = false := decide_eq_false (by omega)
      have g2 : decide ((zs.length : Int) < f) = false := decide_eq_false (by omega)
      have wf : IntKind.i64.wrap (2 * f) = 2 * f := IntWalk.i64_in _ (by omega)
      have g3 : decide ((zs.length : Int) ≤ 2 * f) = false := decide_eq_false (by omega)
      clear h1
      go_enter Tryz.func74, Tryz.ntmps74
      go_wp2_with fail
      refine (R.out _ (by (repeat' (first | (with_reducible exact Below.refl _ _) | (with_reducible refine Below.setCell ?_ ?_ _) | (with_reducible refine Below.alloc ?_ ?_ _) | (with_reducible refine Below.drew ?_) | (with_reducible refine below_drewN ?_ _))) <;> (first | omega | (simp <;> omega)))).mono ?_
      rintro e w1 ⟨rfl, hb1⟩
      have K1 : Below w.heap.size w w1 := kept_call hb1 (by (repeat' (first | (with_reducible exact Below.refl _ _) | (with_reducible refine Below.setCell ?_ ?_ _) | (with_reducible refine Below.alloc ?_ ?_ _) | (with_reducible refine Below.drew ?_) | (with_reducible refine below_drewN ?_ _))) <;> (first | omega | (simp <;> omega)))
      have Z1 : w.heap.size ≤ w1.heap.size := K1.size
      clear hb1
      go_wp2
      go_ret
      exact ⟨rfl, (by (repeat' (first | (with_reducible exact K1) | (with_reducible refine Below.setCell ?_ ?_ _) | (with_reducible refine Below.alloc ?_ ?_ _) | (with_reducible refine Below.drew ?_) | (with_reducible refine below_drewN ?_ _))) <;> (first | omega | (simp <;> omega)))⟩
  · rw [qE_bad (by rw [hce]; exact h0), hce]
    have HCE := Lib.hid hce; clear hce
    have g0 : decide (ce = 0) = false := decide_eq_false h0
    have g0b : (ce == 0) = false := by rw [beq_eq_false_iff_ne]; exact h0
    go_enter Tryz.func74, Tryz.ntmps74
    go_wp2_with fail
    refine (R.out _ (by (repeat' (first | (with_reducible exact Below.refl _ _) | (with_reducible refine Below.setCell ?_ ?_ _) | (with_reducible refine Below.alloc ?_ ?_ _) | (with_reducible refine Below.drew ?_) | (with_reducible refine below_drewN ?_ _))) <;> (first | omega | (simp <;> omega)))).mono ?_
    rintro e w1 ⟨rfl, hb1⟩
    have K1 : Below w.heap.size w w1 := kept_call hb1 (by (repeat' (first | (with_reducible exact Below.refl _ _) | (with_reducible refine Below.setCell ?_ ?_ _) | (with_reducible refine Below.alloc ?_ ?_ _) | (with_reducible refine Below.drew ?_) | (with_reducible refine below_drewN ?_ _))) <;> (first | omega | (simp <;> omega)))
    have Z1 : w.heap.size ≤ w1.heap.size := K1.size
    clear hb1
    go_wp2
    go_ret
    exact ⟨rfl, (by (repeat' (first | (with_reducible exact K1) | (with_reducible refine Below.setCell ?_ ?_ _) | (with_reducible refine Below.alloc ?_ ?_ _) | (with_reducible refine Below.drew ?_) | (with_reducible refine below_drewN ?_ _))) <;> (first | omega | (simp <;> omega)))⟩
set_option maxRecDepth 100000 in
set_option maxHeartbeats 2000000 in
theorem qagree_any (A : Option Addr) (len cap : Nat) (zs : List (Int × Int)) (n : Int) (hc : ckE zs = 0) (hn : 1 ≤ n) (w : World) (h : SpansAt w A len zs) :
    Calls Tryz.prog 75 #[.slice A len cap, .int .i64 n] w (HuR w zs n hullT) := by
  have hle := lE_ok hc (show ¬ n < 1 by omega)
  have R := Lib.hid (fun W (hW : Below w.heap.size w W) => sLeast_any A len cap zs n W (h.below hW))
  have HLE := Lib.hid hle; clear h hle hc
  go_enter Tryz.func75, Tryz.ntmps75
  go_wp2_with fail
  refine (R.out _ (by (repeat' (first | (with_reducible exact Below.refl _ _) | (with_reducible refine Below.setCell ?_ ?_ _) | (with_reducible refine Below.alloc ?_ ?_ _) | (with_reducible refine Below.drew ?_) | (with_reducible refine below_drewN ?_ _))) <;> (first | omega | (simp <;> omega)))).mono ?_
  rintro e w1 ⟨A2, c2, us, rfl, hsp, hlx, hb1⟩
  have K1 : Below w.heap.size w w1 := kept_call hb1 (by (repeat' (first | (with_reducible exact Below.refl _ _) | (with_reducible refine Below.setCell ?_ ?_ _) | (with_reducible refine Below.alloc ?_ ?_ _) | (with_reducible refine Below.drew ?_) | (with_reducible refine below_drewN ?_ _))) <;> (first | omega | (simp <;> omega)))
  have Z1 : w.heap.size ≤ w1.heap.size := K1.size
  have b1_0 := Blk.keep (g := w.heap.size) hb1 (by (repeat' (first | ((with_reducible refine' Blk.newE ?_); first | rfl | (simp; done)) | (with_reducible refine' Blk.alloc ?_ _) | (with_reducible refine' Blk.drew ?_) | (with_reducible refine' Blk.drewN ?_ _) | (with_reducible refine' Blk.put ?_ ?_) | (with_reducible refine' Blk.far ?_ ?_ _) | exact rfl)) <;> (first | omega | (simp <;> omega)))
  (try simp only [List.setIfInBounds_toArray, List.set_cons_zero, List.set_cons_succ] at b1_0)
  clear hb1
  obtain ⟨c1_0, f1_0, l1_0, e1_0, k1_0⟩ := Blk.facts b1_0
  have o1_0 := l1_0
  rw [HLE.out]
  have hul := hsp.2.1
  by_cases hu : us = []
  · subst hu
    simp only [List.length_nil]
    go_wp2
    exact bodyPost_ret (v := hullT 0 0 false) (by simp [results, Tryz.results75, go_sem, *, hullT]) rfl ⟨0, 0, false, rfl, ⟨[], hlx, .inl ⟨rfl, rfl, rfl, rfl⟩⟩, (by (repeat' (first | (with_reducible exact K1) | (with_reducible refine Below.setCell ?_ ?_ _) | (with_reducible refine Below.alloc ?_ ?_ _) | (with_reducible refine Below.drew ?_) | (with_reducible refine below_drewN ?_ _))) <;> (first | omega | (simp <;> omega)))⟩
  · have hl0 : 0 < us.length := List.length_pos_iff.2 hu
    have g0 : decide ((us.length : Int) = 0) = false := decide_eq_false (by omega)
    have g0b : ((us.length : Int) == 0) = false := by rw [beq_eq_false_iff_ne]; omega
    have g0n : decide (us.length = 0) = false := decide_eq_false (by omega)
    have g0nb : (us.length == 0) = false := by rw [beq_eq_false_iff_ne]; omega
    have gu : us ≠ [] := hu
    obtain ⟨r, hr⟩ : ∃ r : Nat, us.length = r + 1 := ⟨us.length - 1, by omega⟩
    have wr1 : IntKind.i64.wrap ((us.length : Int) - 1) = (r : Int) := by rw [IntWalk.i64_in _ (by omega)]; omega
    obtain ⟨bl, off, rfl, hbl, hcs⟩ := hsp.2.2 hl0
    have e0 : w1.cell? ⟨bl, off, none⟩ = some (.int .i64 (us.getD 0 (0, 0)).1) := by simpa using (hcs 0 hl0).1
    have e1 := (hcs r (by omega)).2
    clear hcs hsp
    have hz1 : (lastS us).2 = (us.getD r (0, 0)).2 := by unfold lastS; rw [show us.length - 1 = r by omega]
    obtain ⟨x, hx⟩ : ∃ x, (us.getD 0 (0, 0)).1 = x := ⟨_, rfl⟩
    obtain ⟨y, hy⟩ : ∃ y, (us.getD r (0, 0)).2 = y := ⟨_, rfl⟩
    rw [hx] at e0
    rw [hy] at e1 hz1
    have grp : r < us.length := by omega
    have gr : decide ((r : Int) < (us.length : Int)) = true := decide_eq_true (by omega)
    have grn : decide (r < us.length) = true := decide_eq_true (by omega)
    have g00 : decide (0 < (us.length : Int)) = true := decide_eq_true (by omega)
    have g00n : decide (0 < us.length) = true := decide_eq_true hl0
    have E := Lib.hid (fun (W : World) (hW : Below w1.heap.size w1 W) => And.intro hbl (And.intro ((hW.cell (p := ⟨bl, off, none⟩) hbl).trans e0) ((hW.cell (p := ⟨bl, off + r * 2 + 1, none⟩) hbl).trans e1)))
    have HX := Lib.hid hx; have HY := Lib.hid hz1; have HR := Lib.hid hr; have HLX := Lib.hid hlx; clear hx hy hz1 hlx hr hu e0 e1
    have br := b1_0
    obtain ⟨cr, fr, lr, er, kr⟩ := Blk.facts br
    have K1r := K1
    go_upto_region 4 with fail
    refine' wp_region_calm (by kernel_rfl) (fun n _ w' => Below w.heap.size w w' ∧ (n = 0 → Below w1.heap.size w1 w' ∧ Blk w' (w.heap.size) 40 #[.int .i64 0, .int .i64 0]) ∧ (n = 1 → Blk w' (w.heap.size) 40 #[.int .i64 x, .int .i64 y])) (fun _ _ => True) [(Is _), (Is _), (Is _), (Is _), (Is _), (Is _), (Is _), (Is _), (Is _), (Is _), (Is _), (Is _), (fun _ _ _ => True), (Is _)] [[], [0], [1], [2], [], [], [5], [6], [4, 7], [8], [9], [3, 10], [11], []] [12] [] rfl (by kernel_rfl) (fun u => by (simp only [calmPut, Act.put, List.setIfInBounds_toArray, List.set_cons_zero, List.set_cons_succ, Nat.zero_add, Nat.reduceAdd]; rfl)) ?_ (calmKeep_cons keep_is' (calmKeep_cons keep_is' (calmKeep_cons keep_is' (calmKeep_cons keep_is' (calmKeep_cons keep_is' (calmKeep_cons keep_is' (calmKeep_cons keep_is' (calmKeep_cons keep_is' (calmKeep_cons keep_is' (calmKeep_cons keep_is' (calmKeep_cons keep_is' (calmKeep_cons keep_is' (calmKeep_cons keep_triv (calmKeep_cons keep_is' (calmKeep_nil))))))))))))))) ?_ ?_
    · intro _
      exact ⟨(by (repeat' (first | (with_reducible exact K1) | (with_reducible refine Below.setCell ?_ ?_ _) | (with_reducible refine Below.alloc ?_ ?_ _) | (with_reducible refine Below.drew ?_) | (with_reducible refine below_drewN ?_ _))) <;> (first | omega | (simp <;> omega))), (fun _ => ⟨(by (repeat' (first | (with_reducible exact Below.refl _ _) | (with_reducible refine Below.setCell ?_ ?_ _) | (with_reducible refine Below.alloc ?_ ?_ _) | (with_reducible refine Below.drew ?_) | (with_reducible refine below_drewN ?_ _))) <;> (first | omega | (simp <;> omega))), (by (repeat' (first | (with_reducible exact br) | (with_reducible refine' Blk.alloc ?_ _) | (with_reducible refine' Blk.drew ?_) | (with_reducible refine' Blk.drewN ?_ _) | (with_reducible refine' Blk.put ?_ ?_) | (with_reducible refine' Blk.far ?_ ?_ _) | exact br | exact rfl)) <;> (first | omega | (simp <;> omega)))⟩), (fun h => absurd h (by decide))⟩
    rotate_left 13
    · skip
      refine calmSteps_cons (fun u wq n hn hn2 hC hk K hK => ?_) ?_
      · obtain ⟨hP, hR0, hR1⟩ := hC
        clear hk
        go_simp
        exact hK _ _ _ rfl ⟨hP, hR0, hR1⟩ trivial rfl
      refine calmSteps_cons (fun u wq n hn hn2 hC hk K hK => ?_) ?_
      · obtain ⟨hP, hR0, hR1⟩ := hC
        simp only [calmKnown, List.getElem?_cons_zero, List.getElem?_cons_succ, and_true, Is, Pure, Option.some.injEq, List.getD_cons_zero, List.getD_cons_succ, List.map_cons, List.map_nil] at hk
        have h0 := hk; clear hk
        simp only [h0] at hK ⊢
        have H0 := Lib.hid h0; clear h0
        go_simp
        exact hK _ _ _ rfl ⟨hP, hR0, hR1⟩ trivial rfl
      refine calmSteps_cons (fun u wq n hn hn2 hC hk K hK => ?_) ?_
      · obtain ⟨hP, hR0, hR1⟩ := hC
        simp only [calmKnown, List.getElem?_cons_zero, List.getElem?_cons_succ, and_true, Is, Pure, Option.some.injEq, List.getD_cons_zero, List.getD_cons_succ, List.map_cons, List.map_nil] at hk
        have h1 := hk; clear hk
        simp only [h1] at hK ⊢
        have H1 := Lib.hid h1; clear h1
        go_simp
        exact hK _ _ _ rfl ⟨hP, hR0, hR1⟩ trivial rfl
      refine calmSteps_cons (fun u wq n hn hn2 hC hk K hK => ?_) ?_
      · obtain ⟨hP, hR0, hR1⟩ := hC
        simp only [calmKnown, List.getElem?_cons_zero, List.getElem?_cons_succ, and_true, Is, Pure, Option.some.injEq, List.getD_cons_zero, List.getD_cons_succ, List.map_cons, List.map_nil] at hk
        have h2 := hk; clear hk
        simp only [h2] at hK ⊢
        have H2 := Lib.hid h2; clear h2
        have hn0 : n = 0 := Nat.le_zero.1 (hn2 0 12 rfl (by kernel_rfl))
        have hQ := (hR0 hn0).1
        obtain ⟨y8, y0, y1⟩ := E.out _ hQ
        go_simp
        exact hK _ _ _ rfl ⟨hP, hR0, hR1⟩ trivial rfl
      refine calmSteps_cons (fun u wq n hn hn2 hC hk K hK => ?_) ?_
      · obtain ⟨hP, hR0, hR1⟩ := hC
        clear hk
        go_simp
        exact hK _ _ _ rfl ⟨hP, hR0, hR1⟩ trivial rfl
      refine calmSteps_cons (fun u wq n hn hn2 hC hk K hK => ?_) ?_
      · obtain ⟨hP, hR0, hR1⟩ := hC
        clear hk
        go_simp
        exact hK _ _ _ rfl ⟨hP, hR0, hR1⟩ trivial rfl
      refine calmSteps_cons (fun u wq n hn hn2 hC hk K hK => ?_) ?_
      · obtain ⟨hP, hR0, hR1⟩ := hC
        simp only [calmKnown, List.getElem?_cons_zero, List.getElem?_cons_succ, and_true, Is, Pure, Option.some.injEq, List.getD_cons_zero, List.getD_cons_succ, List.map_cons, List.map_nil] at hk
        have h5 := hk; clear hk
        simp only [h5] at hK ⊢
        have H5 := Lib.hid h5; clear h5
        go_simp
        exact hK _ _ _ rfl ⟨hP, hR0, hR1⟩ trivial rfl
      refine calmSteps_cons (fun u wq n hn hn2 hC hk K hK => ?_) ?_
      · obtain ⟨hP, hR0, hR1⟩ := hC
        simp only [calmKnown, List.getElem?_cons_zero, List.getElem?_cons_succ, and_true, Is, Pure, Option.some.injEq, List.getD_cons_zero, List.getD_cons_succ, List.map_cons, List.map_nil] at hk
        have h6 := hk; clear hk
        simp only [h6] at hK ⊢
        have H6 := Lib.hid h6; clear h6
        go_simp
        exact hK _ _ _ rfl ⟨hP, hR0, hR1⟩ trivial rfl
      refine calmSteps_cons (fun u wq n hn hn2 hC hk K hK => ?_) ?_
      · obtain ⟨hP, hR0, hR1⟩ := hC
        simp only [calmKnown, List.getElem?_cons_zero, List.getElem?_cons_succ, and_true, Is, Pure, Option.some.injEq, List.getD_cons_zero, List.getD_cons_succ, List.map_cons, List.map_nil] at hk
        obtain ⟨h4, h7⟩ := hk
        simp only [h4, h7] at hK ⊢
        have H4 := Lib.hid h4; clear h4; have H7 := Lib.hid h7; clear h7
        go_simp
        exact hK _ _ _ rfl ⟨hP, hR0, hR1⟩ trivial rfl
      refine calmSteps_cons (fun u wq n hn hn2 hC hk K hK => ?_) ?_
      · obtain ⟨hP, hR0, hR1⟩ := hC
        simp only [calmKnown, List.getElem?_cons_zero, List.getElem?_cons_succ, and_true, Is, Pure, Option.some.injEq, List.getD_cons_zero, List.getD_cons_succ, List.map_cons, List.map_nil] at hk
        have h8 := hk; clear hk
        simp only [h8] at hK ⊢
        have H8 := Lib.hid h8; clear h8
        go_simp
        exact hK _ _ _ rfl ⟨hP, hR0, hR1⟩ trivial rfl
      refine calmSteps_cons (fun u wq n hn hn2 hC hk K hK => ?_) ?_
      · obtain ⟨hP, hR0, hR1⟩ := hC
        simp only [calmKnown, List.getElem?_cons_zero, List.getElem?_cons_succ, and_true, Is, Pure, Option.some.injEq, List.getD_cons_zero, List.getD_cons_succ, List.map_cons, List.map_nil] at hk
        have h9 := hk; clear hk
        simp only [h9] at hK ⊢
        have H9 := Lib.hid h9; clear h9
        have hn0 : n = 0 := Nat.le_zero.1 (hn2 0 12 rfl (by kernel_rfl))
        have hQ := (hR0 hn0).1
        obtain ⟨y8, y0, y1⟩ := E.out _ hQ
        go_simp
        exact hK _ _ _ rfl ⟨hP, hR0, hR1⟩ trivial rfl
      refine calmSteps_cons (fun u wq n hn hn2 hC hk K hK => ?_) ?_
      · obtain ⟨hP, hR0, hR1⟩ := hC
        simp only [calmKnown, List.getElem?_cons_zero, List.getElem?_cons_succ, and_true, Is, Pure, Option.some.injEq, List.getD_cons_zero, List.getD_cons_succ, List.map_cons, List.map_nil] at hk
        obtain ⟨h3, h10⟩ := hk
        simp only [h3, h10] at hK ⊢
        have H3 := Lib.hid h3; clear h3; have H10 := Lib.hid h10; clear h10
        go_simp
        exact hK _ _ _ rfl ⟨hP, hR0, hR1⟩ trivial rfl
      refine calmSteps_cons (fun u wq n hn hn2 hC hk K hK => ?_) ?_
      · obtain ⟨hP, hR0, hR1⟩ := hC
        simp only [calmKnown, List.getElem?_cons_zero, List.getElem?_cons_succ, and_true, Is, Pure, Option.some.injEq, List.getD_cons_zero, List.getD_cons_succ, List.map_cons, List.map_nil] at hk
        have h11 := hk; clear hk
        simp only [h11] at hK ⊢
        have H11 := Lib.hid h11; clear h11
        obtain rfl := hn 0 rfl
        have hB := (hR0 rfl).2
        clear hR0 hR1
        have hz0 := hB.cell; have hf0 := hB.frozen; have hl0 := hB.lt
        have hB2 := setAll_blk [.int .i64 x, .int .i64 y] 0 wq _ hB
        simp only [setArr, List.setIfInBounds_toArray, List.set_cons_zero, List.set_cons_succ, Nat.zero_add, Nat.reduceAdd] at hB2
        go_simp
        exact hK _ undef _ rfl ⟨(by (repeat' (first | (with_reducible exact hP) | (with_reducible refine Below.setCell ?_ ?_ _) | (with_reducible refine Below.alloc ?_ ?_ _) | (with_reducible refine Below.drew ?_) | (with_reducible refine below_drewN ?_ _))) <;> (first | omega | (simp <;> omega))), (fun h => absurd h (by decide)), (fun _ => hB2)⟩ trivial trivial
      refine calmSteps_cons (fun u wq n hn hn2 hC hk K hK => ?_) ?_
      · obtain ⟨hP, hR0, hR1⟩ := hC
        clear hk
        go_simp
        exact hK _ _ _ rfl ⟨hP, hR0, hR1⟩ trivial rfl
      exact calmSteps_nil
    · intro u w2 hC hF
      obtain ⟨hP, hR0, hR1⟩ := hC
      simp only [calmFacts, Is, and_true, true_and] at hF
      obtain ⟨f0, f1, f2, f3, f4, f5, f6, f7, f8, f9, f10, f11, f13⟩ := hF
      simp only [f0, f1, f2, f3, f4, f5, f6, f7, f8, f9, f10, f11, f13]
      clear f0 f1 f2 f3 f4 f5 f6 f7 f8 f9 f10 f11 f13
      have br' := hR1 rfl
      clear hR0 hR1 br cr fr lr er kr; have br := br'; clear br'
      have K2 := hP; clear hP
      clear b1_0 c1_0 f1_0 l1_0 e1_0 k1_0
      obtain ⟨cr, fr, lr, er, kr⟩ := Blk.facts br
      go_wp2
      exact bodyPost_ret (v := hullT x y true) (by simp [results, Tryz.results75, go_sem, *, hullT]) rfl ⟨x, y, true, rfl, ⟨us, HLX.out, .inr ⟨hl0, HX.out.symm, HY.out.symm, rfl⟩⟩, (by (repeat' (first | (with_reducible exact K2) | (with_reducible refine Below.setCell ?_ ?_ _) | (with_reducible refine Below.alloc ?_ ?_ _) | (with_reducible refine Below.drew ?_) | (with_reducible refine below_drewN ?_ _))) <;> (first | omega | (simp <;> omega)))⟩
set_option maxRecDepth 100000 in
set_option maxHeartbeats 2000000 in
theorem qAgree_any (A : Option Addr) (len cap : Nat) (zs : List (Int × Int)) (f : Int) (w : World) (h : SpansAt w A len zs) :
    Calls Tryz.prog 52 #[.slice A len cap, .int .i64 f] w (AgR w zs f) := by
  obtain rfl := h.1
  have R := Lib.hid (fun W (hW : Below w.heap.size w W) => qcheck_any A zs.length cap zs f W (h.below hW))
  have Q := Lib.hid (fun (h1 : ckE zs = 0) (h2 : 1 ≤ (zs.length : Int) - f) W (hW : Below w.heap.size w W) => qagree_any A zs.length cap zs ((zs.length : Int) - f) h1 h2 W (h.below hW))
  clear h
  obtain ⟨qe, hqe⟩ : ∃ qe, qE zs f = qe := ⟨_, rfl⟩
  rw [hqe] at R
  have HQE := Lib.hid hqe; clear hqe
  go_enter Tryz.func52, Tryz.ntmps52
  go_wp2_with fail
  refine (R.out _ (by (repeat' (first | (with_reducible exact Below.refl _ _) | (with_reducible refine Below.setCell ?_ ?_ _) | (with_reducible refine Below.alloc ?_ ?_ _) | (with_reducible refine Below.drew ?_) | (with_reducible refine below_drewN ?_ _))) <;> (first | omega | (simp <;> omega)))).mono ?_
  rintro e w1 ⟨rfl, hb1⟩
  have K1 : Below w.heap.size w w1 := kept_call hb1 (by (repeat' (first | (with_reducible exact Below.refl _ _) | (with_reducible refine Below.setCell ?_ ?_ _) | (with_reducible refine Below.alloc ?_ ?_ _) | (with_reducible refine Below.drew ?_) | (with_reducible refine below_drewN ?_ _))) <;> (first | omega | (simp <;> omega)))
  have Z1 : w.heap.size ≤ w1.heap.size := K1.size
  have b1_0 := Blk.keep (g := w.heap.size) hb1 (by (repeat' (first | ((with_reducible refine' Blk.newE ?_); first | rfl | (simp; done)) | (with_reducible refine' Blk.alloc ?_ _) | (with_reducible refine' Blk.drew ?_) | (with_reducible refine' Blk.drewN ?_ _) | (with_reducible refine' Blk.put ?_ ?_) | (with_reducible refine' Blk.far ?_ ?_ _) | exact rfl)) <;> (first | omega | (simp <;> omega)))
  (try simp only [List.setIfInBounds_toArray, List.set_cons_zero, List.set_cons_succ] at b1_0)
  clear hb1
  obtain ⟨c1_0, f1_0, l1_0, e1_0, k1_0⟩ := Blk.facts b1_0
  have o1_0 := l1_0
  by_cases h0 : qe = 0
  · subst h0
    obtain ⟨hc0, hf0, hf1⟩ := qE_parts HQE.out
    have hl64 := (ckE_ok hc0).1
    have wlf : IntKind.i64.wrap ((zs.length : Int) - f) = (zs.length : Int) - f := IntWalk.i64_in _ (by omega)
    have HC0 := Lib.hid hc0; clear hc0
    go_wp2_with fail
    refine (Q.out HC0.out (by omega) _ (by (repeat' (first | (with_reducible exact K1) | (with_reducible refine Below.setCell ?_ ?_ _) | (with_reducible refine Below.alloc ?_ ?_ _) | (with_reducible refine Below.drew ?_) | (with_reducible refine below_drewN ?_ _))) <;> (first | omega | (simp <;> omega)))).mono ?_
    rintro e w2 ⟨x, y, b, rfl, hhu, hb2⟩
    have K2 : Below w.heap.size w w2 := kept_call hb2 (by (repeat' (first | (with_reducible exact K1) | (with_reducible refine Below.setCell ?_ ?_ _) | (with_reducible refine Below.alloc ?_ ?_ _) | (with_reducible refine Below.drew ?_) | (with_reducible refine below_drewN ?_ _))) <;> (first | omega | (simp <;> omega)))
    have Z2 : w.heap.size ≤ w2.heap.size := K2.size
    have b1_0' := Blk.keep (g := w.heap.size) hb2 (by (repeat' (first | (with_reducible refine' Blk.alloc ?_ _) | (with_reducible refine' Blk.drew ?_) | (with_reducible refine' Blk.drewN ?_ _) | (with_reducible refine' Blk.put ?_ ?_) | (with_reducible refine' Blk.far ?_ ?_ _) | exact b1_0 | exact rfl)) <;> (first | omega | (simp <;> omega)))
    (try simp only [List.setIfInBounds_toArray, List.set_cons_zero, List.set_cons_succ] at b1_0')
    clear hb2 K1
    clear b1_0 c1_0 f1_0 l1_0 e1_0 k1_0; have b1_0 := b1_0'; clear b1_0'
    obtain ⟨c1_0, f1_0, l1_0, e1_0, k1_0⟩ := Blk.facts b1_0
    have hax := hu_ax HQE.out hhu
    have HAX := Lib.hid hax; clear hax hhu
    cases b with
    | true =>
      have HAX2 := HAX.out
      simp only [if_true, if_false, Bool.false_eq_true] at HAX2
      have HAX := Lib.hid HAX2; clear HAX2
      unfold hullT
      simp only [if_true, if_false, Bool.false_eq_true]
      go_wp2
      exact bodyPost_ret (v := .tuple #[.agg #[.int .i64 x, .int .i64 y], .int .i64 0]) (by simp [results, Tryz.results52, go_sem, *]) rfl ⟨x, y, 0, rfl, HAX.out, (by (repeat' (first | (with_reducible exact K2) | (with_reducible refine Below.setCell ?_ ?_ _) | (with_reducible refine Below.alloc ?_ ?_ _) | (with_reducible refine Below.drew ?_) | (with_reducible refine below_drewN ?_ _))) <;> (first | omega | (simp <;> omega)))⟩
    | false =>
      have HAX2 := HAX.out
      simp only [if_true, if_false, Bool.false_eq_true] at HAX2
      have HAX := Lib.hid HAX2; clear HAX2
      unfold hullT
      simp only [if_true, if_false, Bool.false_eq_true]
      obtain ⟨rfl, rfl⟩ : x = 0 ∧ y = 0 := by rcases HAX.out with ⟨-, h1, h2, -⟩ | ⟨-, us, -, ⟨-, h1, h2, -⟩ | ⟨-, -, -, h⟩⟩ <;> first | exact ⟨h1, h2⟩ | (simp at h)
      go_wp2
      exact bodyPost_ret (v := .tuple #[.agg #[.int .i64 0, .int .i64 0], .int .i64 21]) (by simp [results, Tryz.results52, go_sem, *]) rfl ⟨0, 0, 21, rfl, HAX.out, (by (repeat' (first | (with_reducible exact K2) | (with_reducible refine Below.setCell ?_ ?_ _) | (with_reducible refine Below.alloc ?_ ?_ _) | (with_reducible refine Below.drew ?_) | (with_reducible refine below_drewN ?_ _))) <;> (first | omega | (simp <;> omega)))⟩
  · have g0 : decide (qe = 0) = false := decide_eq_false h0
    have g0b : (qe == 0) = false := by rw [beq_eq_false_iff_ne]; exact h0
    go_wp2
    exact bodyPost_ret (v := .tuple #[.agg #[.int .i64 0, .int .i64 0], .int .i64 qe]) (by simp [results, Tryz.results52, go_sem, *]) rfl ⟨0, 0, qe, rfl, .inl ⟨by rw [HQE.out]; exact h0, rfl, rfl, HQE.out.symm⟩, (by (repeat' (first | (with_reducible exact K1) | (with_reducible refine Below.setCell ?_ ?_ _) | (with_reducible refine Below.alloc ?_ ?_ _) | (with_reducible refine Below.drew ?_) | (with_reducible refine below_drewN ?_ _))) <;> (first | omega | (simp <;> omega)))⟩
end Go.Proofs.YtiinmhfolfgobaaGreatDoor
namespace Go.Proofs.YtiinmhfolfgobaaGreatDoor
open Go.RowKit
set_option linter.unusedSimpArgs false
set_option linter.unusedVariables false

end Go.Proofs.YtiinmhfolfgobaaGreatDoor
namespace Go.Proofs.YtiinmhfolfgobaaGreatDoor
open Go.RowKit Go.Shelf Go.Sort
set_option linter.unusedSimpArgs false
set_option linter.unusedVariables false

end Go.Proofs.YtiinmhfolfgobaaGreatDoor
namespace Go.Proofs.YtiinmhfolfgobaaGreatDoor
open Go.RowKit Go.Shelf Go.Sort
set_option linter.unusedSimpArgs false
set_option linter.unusedVariables false

end Go.Proofs.YtiinmhfolfgobaaGreatDoor
namespace Go.Proofs.YtiinmhfolfgobaaGreatDoor
open Go.RowKit Go.Shelf Go.Sort
set_option linter.unusedSimpArgs false
set_option linter.unusedVariables false

end Go.Proofs.YtiinmhfolfgobaaGreatDoor
namespace Go.Proofs.YtiinmhfolfgobaaGreatDoor
open Go.RowKit Go.Shelf Go.Sort
set_option linter.unusedSimpArgs false
set_option linter.unusedVariables false

end Go.Proofs.YtiinmhfolfgobaaGreatDoor
