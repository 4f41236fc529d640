/- leap.Valid and the reference's Valid, for every table. -/
import Derived.Test.YtmebkbnildjfhaaLeapP
import Derived.Deep.LoopGhost
import Derived.Deep.QuietTactic
import Derived.BigQuiet
namespace Go.Proofs.Ytmebkbnildjfhaa
open Go.RowKit
set_option linter.unusedSimpArgs false
set_option linter.unusedVariables false

def VRel (w : World) (g : Nat) (first : Int) (A : Option Addr) (len cap : Nat) (zs : List (Int × Int)) (G : Nat) (i : Value) (wr : World) : Prop :=
  ∃ q : Nat, q ≤ len ∧ G = len - q ∧ i = .int .i64 (q : Int) ∧ (∀ j, j < q → chkL first zs j) ∧ Blk wr w.heap.size 25 #[.int .i64 first, .slice A len cap] ∧ Blk wr g 67 #[.int .i64 (prevL zs q), .int .i64 (oldL first zs q)] ∧ Below w.heap.size w wr
def WRel (w : World) (first : Int) (A : Option Addr) (len cap : Nat) (zs : List (Int × Int)) (G : Nat) (o i : Value) (wr : World) : Prop :=
  ∃ q : Nat, q ≤ len ∧ G = len - q ∧ i = .int .i64 (q : Int) ∧ o = .int .i64 (oldL first zs q) ∧ (∀ j, j < q → chkL first zs j) ∧ Blk wr w.heap.size 25 #[.int .i64 first, .slice A len cap] ∧ Below w.heap.size w wr
theorem not_chk {first : Int} {zs : List (Int × Int)} {q : Nat} (hq : q < zs.length) (h : ¬ chkL first zs q) : lvB first zs = false := lvB_no (fun hv => h (hv.2.2.2 q hq))
set_option maxRecDepth 100000 in
set_option maxHeartbeats 4000000 in
theorem lvalid_any (first : Int) (A : Option Addr) (len cap : Nat) (zs : List (Int × Int)) (w : World) (h : PrAt w A len zs) (hz : ∀ z ∈ zs, IntIn z.1 ∧ IntIn z.2) :
    Calls Try.prog 41 #[.agg #[.int .i64 first, .slice A len cap]] w (RB w (.bool (lvB first zs))) := by
  have hzl := h.1
  have hlm := h.2.1
  have H := Lib.hid h; clear h
  have HZ := Lib.hid hz; clear hz
  by_cases h1 : first < 0
  · rw [lvB_no (by intro hv; obtain ⟨v1, v2, v3, _⟩ := hv; omega)]
    go_enter Try.func41, Try.ntmps41
    go_wp2
    go_ret
    exact ⟨rfl, by (repeat' (first | (with_reducible exact Below.refl _ _) | (with_reducible refine Below.setCell ?_ ?_ _) | (with_reducible refine Below.alloc ?_ ?_ _) | (with_reducible refine Below.drew ?_) | (with_reducible refine below_drewN ?_ _))) <;> (first | omega | (simp <;> omega))⟩
  have g1 : decide (first < 0) = false := decide_eq_false h1
  by_cases h2 : 100 < first
  · rw [lvB_no (by intro hv; obtain ⟨v1, v2, v3, _⟩ := hv; omega)]
    go_enter Try.func41, Try.ntmps41
    go_wp2
    go_ret
    exact ⟨rfl, by (repeat' (first | (with_reducible exact Below.refl _ _) | (with_reducible refine Below.setCell ?_ ?_ _) | (with_reducible refine Below.alloc ?_ ?_ _) | (with_reducible refine Below.drew ?_) | (with_reducible refine below_drewN ?_ _))) <;> (first | omega | (simp <;> omega))⟩
  have g2 : decide (100 < first) = false := decide_eq_false h2
  by_cases h3 : 64 < len
  · have g3 : decide ((64 : Int) < (len : Int)) = true := decide_eq_true (by omega)
    rw [lvB_no (by intro hv; obtain ⟨v1, v2, v3, _⟩ := hv; omega)]
    go_enter Try.func41, Try.ntmps41
    go_wp2
    go_ret
    exact ⟨rfl, by (repeat' (first | (with_reducible exact Below.refl _ _) | (with_reducible refine Below.setCell ?_ ?_ _) | (with_reducible refine Below.alloc ?_ ?_ _) | (with_reducible refine Below.drew ?_) | (with_reducible refine below_drewN ?_ _))) <;> (first | omega | (simp <;> omega))⟩
  have g3 : decide ((64 : Int) < (len : Int)) = false := decide_eq_false (by omega)
  have g3n : decide (64 < len) = false := decide_eq_false h3
  go_enter Try.func41, Try.ntmps41
  go_wp2
  go_loopg [27] len (fun G i wr => VRel w (w.heap.size + 1) first A len cap zs G i wr)
  case atStart => exact ⟨0, by omega, by omega, rfl, by omega, (by (repeat' (first | ((with_reducible refine' Blk.newE ?_); first | rfl | (simp; done)) | (with_reducible refine' Blk.alloc ?_ _) | (with_reducible refine' Blk.drew ?_) | (with_reducible refine' Blk.drewN ?_ _) | (with_reducible refine' Blk.put ?_ ?_) | (with_reducible refine' Blk.far ?_ ?_ _) | exact rfl)) <;> (first | omega | (simp <;> omega))), (show Blk _ (w.heap.size + 1) 67 #[.int .i64 (-86400), .int .i64 first] from (by (repeat' (first | ((with_reducible refine' Blk.newE ?_); first | rfl | (simp; done)) | (with_reducible refine' Blk.alloc ?_ _) | (with_reducible refine' Blk.drew ?_) | (with_reducible refine' Blk.drewN ?_ _) | (with_reducible refine' Blk.put ?_ ?_) | (with_reducible refine' Blk.far ?_ ?_ _) | exact rfl)) <;> (first | omega | (simp <;> omega)))), by (repeat' (first | (with_reducible exact Below.refl _ _) | (with_reducible refine Below.setCell ?_ ?_ _) | (with_reducible refine Below.alloc ?_ ?_ _) | (with_reducible refine Below.drew ?_) | (with_reducible refine below_drewN ?_ _))) <;> (first | omega | (simp <;> omega))⟩
  case round =>
    obtain ⟨q, hq, rfl, rfl, hch, hB, hL, hbel⟩ := hrel
    have ob := old_bound hch
    have pb := prev_bound hch
    have zr := hbel.size
    have HC := Lib.hid hch; clear hch
    by_cases hlt : q < len
    · obtain ⟨bl, off, rfl, hb, hcs⟩ := H.out.2.2 (by omega)
      obtain ⟨e0, e1⟩ := hcs q hlt
      clear hcs
      have e0 := (hbel.cell (p := ⟨bl, off + q * 2, none⟩) hb).trans e0
      have e1 := (hbel.cell (p := ⟨bl, off + q * 2 + 1, none⟩) hb).trans e1
      have hin := HZ.out (zs.getD q (0, 0)) (by rw [List.getD_eq_getElem?_getD, List.getElem?_eq_getElem (by omega)]; exact List.getElem_mem _)
      have hbW : bl < wr.heap.size := Nat.lt_of_lt_of_le hb zr
      have hck : chkL first zs q ↔ (zs.getD q (0, 0)).1 % 86400 = 0 ∧ prevL zs q + 172800 ≤ (zs.getD q (0, 0)).1 ∧ (zs.getD q (0, 0)).1 ≤ 137438953472 ∧ ((zs.getD q (0, 0)).2 = oldL first zs q + 1 ∨ (zs.getD q (0, 0)).2 = oldL first zs q - 1) := Iff.rfl
      have hps := prevL_succ (zs := zs) q
      have hos := oldL_succ (first := first) (zs := zs) q
      generalize zs.getD q (0, 0) = z at *
      obtain ⟨x, y⟩ := z
      dsimp only at e0 e1 hck hin hps hos
      obtain ⟨hx, hy⟩ := hin
      obtain ⟨s1, s2⟩ := step_off (lo := oldL first zs q) hy (by omega) (by omega)
      have HPS := Lib.hid hps; have HOS := Lib.hid hos; clear hps hos
      generalize prevL zs q = pv at *
      generalize oldL first zs q = ov at *
      obtain ⟨d, hd⟩ : ∃ d, IntKind.i64.wrap (y - ov) = d := ⟨_, rfl⟩
      rw [hd] at s1 s2
      obtain ⟨r, hr⟩ : ∃ r, x.tmod 86400 = r := ⟨_, rfl⟩
      have hr0 : r = 0 ↔ x % 86400 = 0 := by rw [← hr]; exact ⟨fun h => Int.emod_eq_zero_of_dvd (Int.dvd_of_tmod_eq_zero h), fun h => Int.tmod_eq_zero_of_dvd (Int.dvd_of_emod_eq_zero h)⟩
      have wp : IntKind.i64.wrap (pv + 172800) = pv + 172800 := IntWalk.i64_in _ (by omega)
      have cB := hB.cell; have cL := hL.cell; have fB := hB.frozen; have fL := hL.frozen; have lB := hB.lt; have lL := hL.lt
      have gk : decide ((q : Int) < (len : Int)) = true := decide_eq_true (by omega)
      have nb : bl ≠ w.heap.size + 1 := by omega
      have nb2 : bl ≠ w.heap.size := by omega
      have HCK := Lib.hid hck; clear hck
      have HR := Lib.hid hr0; have S1 := Lib.hid s1; have S2 := Lib.hid s2; clear hr0 s1 s2
      by_cases k1 : r ≠ 0
      · have g4 : decide (r = 0) = false := decide_eq_false k1
        rw [not_chk (first := first) (zs := zs) (q := q) (by omega) (fun hc => (by have hc := HCK.out.1 hc; have := HR.out; have := S1.out; have := S2.out; omega))]
        go_wp2
        all_goals try (exfalso; omega)
        go_ret
        exact ⟨rfl, by (repeat' (first | (with_reducible exact hbel) | (with_reducible refine Below.setCell ?_ ?_ _) | (with_reducible refine Below.alloc ?_ ?_ _) | (with_reducible refine Below.drew ?_) | (with_reducible refine below_drewN ?_ _))) <;> (first | omega | (simp <;> omega))⟩
      have k1 : r = 0 := by omega
      subst k1
      by_cases k2 : x < pv + 172800
      · have g5 : decide (x < pv + 172800) = true := decide_eq_true k2
        rw [not_chk (first := first) (zs := zs) (q := q) (by omega) (fun hc => (by have hc := HCK.out.1 hc; have := HR.out; have := S1.out; have := S2.out; omega))]
        go_wp2
        all_goals try (exfalso; omega)
        go_ret
        exact ⟨rfl, by (repeat' (first | (with_reducible exact hbel) | (with_reducible refine Below.setCell ?_ ?_ _) | (with_reducible refine Below.alloc ?_ ?_ _) | (with_reducible refine Below.drew ?_) | (with_reducible refine below_drewN ?_ _))) <;> (first | omega | (simp <;> omega))⟩
      have g5 : decide (x < pv + 172800) = false := decide_eq_false k2
      by_cases k3 : 137438953472 < x
      · have g6 : decide (137438953472 < x) = true := decide_eq_true k3
        rw [not_chk (first := first) (zs := zs) (q := q) (by omega) (fun hc => (by have hc := HCK.out.1 hc; have := HR.out; have := S1.out; have := S2.out; omega))]
        go_wp2
        all_goals try (exfalso; omega)
        go_ret
        exact ⟨rfl, by (repeat' (first | (with_reducible exact hbel) | (with_reducible refine Below.setCell ?_ ?_ _) | (with_reducible refine Below.alloc ?_ ?_ _) | (with_reducible refine Below.drew ?_) | (with_reducible refine below_drewN ?_ _))) <;> (first | omega | (simp <;> omega))⟩
      have g6 : decide (137438953472 < x) = false := decide_eq_false k3
      by_cases k4 : ¬ (d = 1 ∨ d = -1)
      · have g7 : decide (d = 1) = false := decide_eq_false (by omega)
        have g8 : decide (d = -1) = false := decide_eq_false (by omega)
        have g9 : (d != 1) = true := by simp; omega
        have g10 : (d != -1) = true := by simp; omega
        rw [not_chk (first := first) (zs := zs) (q := q) (by omega) (fun hc => (by have hc := HCK.out.1 hc; have := HR.out; have := S1.out; have := S2.out; omega))]
        go_wp2
        all_goals try (exfalso; omega)
        go_ret
        exact ⟨rfl, by (repeat' (first | (with_reducible exact hbel) | (with_reducible refine Below.setCell ?_ ?_ _) | (with_reducible refine Below.alloc ?_ ?_ _) | (with_reducible refine Below.drew ?_) | (with_reducible refine below_drewN ?_ _))) <;> (first | omega | (simp <;> omega))⟩
      have k4 : d = 1 ∨ d = -1 := by omega
      have hcn : ∀ j, j < q + 1 → chkL first zs j := fun j hj => by
        by_cases e : j = q
        · subst e; exact HCK.out.2 ⟨HR.out.1 rfl, by omega, by omega, by rcases k4 with k | k <;> first | exact .inl (S1.out.1 k) | exact .inr (S2.out.1 k)⟩
        · exact HC.out j (by omega)
      have HCN := Lib.hid hcn; clear hcn
      rcases k4 with k4 | k4 <;> subst k4
      all_goals
        go_wp2
        go_roundg (len - (q + 1))
        case measure => omega
        case rel => exact ⟨q + 1, by omega, by omega, by go_num, HCN.out, (by (repeat' (first | (with_reducible exact hB) | (with_reducible refine' Blk.alloc ?_ _) | (with_reducible refine' Blk.drew ?_) | (with_reducible refine' Blk.drewN ?_ _) | (with_reducible refine' Blk.put ?_ ?_) | (with_reducible refine' Blk.far ?_ ?_ _) | exact hB | exact rfl)) <;> (first | omega | (simp <;> omega))), (by rw [HPS.out, HOS.out]; exact (by (repeat' (first | (with_reducible exact hL) | (with_reducible refine' Blk.alloc ?_ _) | (with_reducible refine' Blk.drew ?_) | (with_reducible refine' Blk.drewN ?_ _) | (with_reducible refine' Blk.put ?_ ?_) | (with_reducible refine' Blk.far ?_ ?_ _) | exact hL | exact rfl)) <;> (first | omega | (simp <;> omega)))), by (repeat' (first | (with_reducible exact hbel) | (with_reducible refine Below.setCell ?_ ?_ _) | (with_reducible refine Below.alloc ?_ ?_ _) | (with_reducible refine Below.drew ?_) | (with_reducible refine below_drewN ?_ _))) <;> (first | omega | (simp <;> omega))⟩
    · obtain rfl : q = len := by omega
      have gk : decide ((q : Int) < (q : Int)) = false := decide_eq_false (by omega)
      have hv : lvB first zs = true := lvB_true.2 ⟨by omega, by omega, by omega, fun i hi => HC.out i (by omega)⟩
      go_wp2
      go_ret
      exact ⟨by rw [hv]; rfl, by (repeat' (first | (with_reducible exact hbel) | (with_reducible refine Below.setCell ?_ ?_ _) | (with_reducible refine Below.alloc ?_ ?_ _) | (with_reducible refine Below.drew ?_) | (with_reducible refine below_drewN ?_ _))) <;> (first | omega | (simp <;> omega))⟩
set_option maxRecDepth 100000 in
set_option maxHeartbeats 4000000 in
theorem rlvalid_any (first : Int) (A : Option Addr) (len cap : Nat) (zs : List (Int × Int)) (w : World) (h : PrAt w A len zs) (hz : ∀ z ∈ zs, IntIn z.1 ∧ IntIn z.2) :
    Calls Try.prog 31 #[.agg #[.int .i64 first, .slice A len cap]] w (RB w (.bool (lvB first zs))) := by
  have hzl := h.1
  have hlm := h.2.1
  have H := Lib.hid h; clear h
  have HZ := Lib.hid hz; clear hz
  by_cases h1 : first < 0
  · rw [lvB_no (by intro hv; obtain ⟨v1, v2, v3, _⟩ := hv; omega)]
    go_enter Try.func31, Try.ntmps31
    go_wp2
    go_ret
    exact ⟨rfl, by (repeat' (first | (with_reducible exact Below.refl _ _) | (with_reducible refine Below.setCell ?_ ?_ _) | (with_reducible refine Below.alloc ?_ ?_ _) | (with_reducible refine Below.drew ?_) | (with_reducible refine below_drewN ?_ _))) <;> (first | omega | (simp <;> omega))⟩
  have g1 : decide (first < 0) = false := decide_eq_false h1
  by_cases h2 : 100 < first
  · rw [lvB_no (by intro hv; obtain ⟨v1, v2, v3, _⟩ := hv; omega)]
    go_enter Try.func31, Try.ntmps31
    go_wp2
    go_ret
    exact ⟨rfl, by (repeat' (first | (with_reducible exact Below.refl _ _) | (with_reducible refine Below.setCell ?_ ?_ _) | (with_reducible refine Below.alloc ?_ ?_ _) | (with_reducible refine Below.drew ?_) | (with_reducible refine below_drewN ?_ _))) <;> (first | omega | (simp <;> omega))⟩
  have g2 : decide (100 < first) = false := decide_eq_false h2
  by_cases h3 : 64 < len
  · have g3 : decide ((64 : Int) < (len : Int)) = true := decide_eq_true (by omega)
    rw [lvB_no (by intro hv; obtain ⟨v1, v2, v3, _⟩ := hv; omega)]
    go_enter Try.func31, Try.ntmps31
    go_wp2
    go_ret
    exact ⟨rfl, by (repeat' (first | (with_reducible exact Below.refl _ _) | (with_reducible refine Below.setCell ?_ ?_ _) | (with_reducible refine Below.alloc ?_ ?_ _) | (with_reducible refine Below.drew ?_) | (with_reducible refine below_drewN ?_ _))) <;> (first | omega | (simp <;> omega))⟩
  have g3 : decide ((64 : Int) < (len : Int)) = false := decide_eq_false (by omega)
  have g3n : decide (64 < len) = false := decide_eq_false h3
  go_enter Try.func31, Try.ntmps31
  go_wp2
  go_loopg [3, 4] len (fun G o i wr => WRel w first A len cap zs G o i wr)
  case atStart => exact ⟨0, by omega, by omega, rfl, rfl, by omega, (by (repeat' (first | ((with_reducible refine' Blk.newE ?_); first | rfl | (simp; done)) | (with_reducible refine' Blk.alloc ?_ _) | (with_reducible refine' Blk.drew ?_) | (with_reducible refine' Blk.drewN ?_ _) | (with_reducible refine' Blk.put ?_ ?_) | (with_reducible refine' Blk.far ?_ ?_ _) | exact rfl)) <;> (first | omega | (simp <;> omega))), by (repeat' (first | (with_reducible exact Below.refl _ _) | (with_reducible refine Below.setCell ?_ ?_ _) | (with_reducible refine Below.alloc ?_ ?_ _) | (with_reducible refine Below.drew ?_) | (with_reducible refine below_drewN ?_ _))) <;> (first | omega | (simp <;> omega))⟩
  case round =>
    obtain ⟨q, hq, rfl, rfl, rfl, hch, hB, hbel⟩ := hrel
    have ob := old_bound hch
    have pb := prev_bound hch
    have zr := hbel.size
    have HC := Lib.hid hch; clear hch
    by_cases hlt : q < len
    · obtain ⟨bl, off, rfl, hb, hcs⟩ := H.out.2.2 (by omega)
      obtain ⟨e0, e1⟩ := hcs q hlt
      have e0 := (hbel.cell (p := ⟨bl, off + q * 2, none⟩) hb).trans e0
      have e1 := (hbel.cell (p := ⟨bl, off + q * 2 + 1, none⟩) hb).trans e1
      have hin := HZ.out (zs.getD q (0, 0)) (by rw [List.getD_eq_getElem?_getD, List.getElem?_eq_getElem (by omega)]; exact List.getElem_mem _)
      have hbW : bl < wr.heap.size := Nat.lt_of_lt_of_le hb zr
      have hck : chkL first zs q ↔ (zs.getD q (0, 0)).1 % 86400 = 0 ∧ prevL zs q + 172800 ≤ (zs.getD q (0, 0)).1 ∧ (zs.getD q (0, 0)).1 ≤ 137438953472 ∧ ((zs.getD q (0, 0)).2 = oldL first zs q + 1 ∨ (zs.getD q (0, 0)).2 = oldL first zs q - 1) := Iff.rfl
      have hpz : q = 0 → prevL zs q = -86400 := fun h => by simp [prevL, h]
      have hpp : 0 < q → wr.cell? ⟨bl, off + (q - 1) * 2, none⟩ = some (.int .i64 (prevL zs q)) := fun h => by
        have := (hcs (q - 1) (by omega)).1
        rw [show prevL zs q = (zs.getD (q - 1) (0, 0)).1 by simp [prevL]; omega]
        exact (hbel.cell (p := ⟨bl, off + (q - 1) * 2, none⟩) hb).trans this
      have hp0 : 0 < q → 86400 ≤ prevL zs q := fun h => by
        have h2 := HC.out (q - 1) (by omega)
        have h3 := prev_bound (first := first) (zs := zs) (q := q - 1) (fun j hj => HC.out j (by omega))
        rw [show prevL zs q = (zs.getD (q - 1) (0, 0)).1 by simp [prevL]; omega]
        have := h2.2.1; omega
      clear hcs
      have hos := oldL_succ (first := first) (zs := zs) q
      generalize zs.getD q (0, 0) = z at *
      obtain ⟨x, y⟩ := z
      dsimp only at e0 e1 hck hin hos
      obtain ⟨hx, hy⟩ := hin
      have HOS := Lib.hid hos; clear hos
      generalize prevL zs q = pv at *
      generalize oldL first zs q = ov at *
      obtain ⟨r, hr⟩ : ∃ r, x.tmod 86400 = r := ⟨_, rfl⟩
      have hr0 : r = 0 ↔ x % 86400 = 0 := by rw [← hr]; exact ⟨fun h => Int.emod_eq_zero_of_dvd (Int.dvd_of_tmod_eq_zero h), fun h => Int.tmod_eq_zero_of_dvd (Int.dvd_of_emod_eq_zero h)⟩
      have wp : IntKind.i64.wrap (pv + 172800) = pv + 172800 := IntWalk.i64_in _ (by omega)
      have wo1 : IntKind.i64.wrap (ov + 1) = ov + 1 := IntWalk.i64_in _ (by omega)
      have wo2 : IntKind.i64.wrap (ov - 1) = ov - 1 := IntWalk.i64_in _ (by omega)
      have cB := hB.cell; have fB := hB.frozen; have lB := hB.lt
      have gk : decide ((q : Int) < (len : Int)) = true := decide_eq_true (by omega)
      have nb2 : bl ≠ w.heap.size := by omega
      have HCK := Lib.hid hck; clear hck
      have HR := Lib.hid hr0; clear hr0
      have hq0 : q = 0 ∨ 0 < q := by omega
      rcases hq0 with hq0 | hq0
      · skip
        have hpv := hpz hq0
        have g0 : decide ((0 : Int) < (q : Int)) = false := decide_eq_false (by omega)
        have g0n : decide (0 < q) = false := decide_eq_false (by omega)
        have hpv2 : pv + 172800 ≤ 86400 := by omega
        clear hpp hp0 hpz hpv hq0
        by_cases k1 : x < 86400
        · have g4 : decide (x < 86400) = true := decide_eq_true k1
          rw [not_chk (first := first) (zs := zs) (q := q) (by omega) (fun hc => (by have hc := HCK.out.1 hc; have := HR.out; omega))]
          go_wp2_with fail
          go_quiet (fail)
          go_wp2
          go_ret
          exact ⟨rfl, by (repeat' (first | (with_reducible exact hbel) | (with_reducible refine Below.setCell ?_ ?_ _) | (with_reducible refine Below.alloc ?_ ?_ _) | (with_reducible refine Below.drew ?_) | (with_reducible refine below_drewN ?_ _))) <;> (first | omega | (simp <;> omega))⟩
        have g4 : decide (x < 86400) = false := decide_eq_false k1
        by_cases k3 : 137438953472 < x
        · have g6 : decide (137438953472 < x) = true := decide_eq_true k3
          rw [not_chk (first := first) (zs := zs) (q := q) (by omega) (fun hc => (by have hc := HCK.out.1 hc; have := HR.out; omega))]
          go_wp2_with fail
          go_quiet (fail)
          go_wp2
          go_ret
          exact ⟨rfl, by (repeat' (first | (with_reducible exact hbel) | (with_reducible refine Below.setCell ?_ ?_ _) | (with_reducible refine Below.alloc ?_ ?_ _) | (with_reducible refine Below.drew ?_) | (with_reducible refine below_drewN ?_ _))) <;> (first | omega | (simp <;> omega))⟩
        have g6 : decide (137438953472 < x) = false := decide_eq_false k3
        by_cases k0 : r ≠ 0
        · have g5 : decide (r = 0) = false := decide_eq_false k0
          have g5' : (r != 0) = true := by simp; omega
          rw [not_chk (first := first) (zs := zs) (q := q) (by omega) (fun hc => (by have hc := HCK.out.1 hc; have := HR.out; omega))]
          go_wp2_with fail
          go_quiet (fail)
          go_wp2
          go_ret
          exact ⟨rfl, by (repeat' (first | (with_reducible exact hbel) | (with_reducible refine Below.setCell ?_ ?_ _) | (with_reducible refine Below.alloc ?_ ?_ _) | (with_reducible refine Below.drew ?_) | (with_reducible refine below_drewN ?_ _))) <;> (first | omega | (simp <;> omega))⟩
        have k0 : r = 0 := by omega
        subst k0
        by_cases k4 : ¬ (y = ov + 1 ∨ y = ov - 1)
        · have g8 : decide (y = ov + 1) = false := decide_eq_false (by omega)
          have g9 : decide (y = ov - 1) = false := decide_eq_false (by omega)
          have g10 : (y != ov + 1) = true := by simp; omega
          have g11 : (y != ov - 1) = true := by simp; omega
          rw [not_chk (first := first) (zs := zs) (q := q) (by omega) (fun hc => (by have hc := HCK.out.1 hc; have := HR.out; omega))]
          go_wp2_with fail
          go_quiet (fail)
          go_wp2
          go_ret
          exact ⟨rfl, by (repeat' (first | (with_reducible exact hbel) | (with_reducible refine Below.setCell ?_ ?_ _) | (with_reducible refine Below.alloc ?_ ?_ _) | (with_reducible refine Below.drew ?_) | (with_reducible refine below_drewN ?_ _))) <;> (first | omega | (simp <;> omega))⟩
        have k4 : y = ov + 1 ∨ y = ov - 1 := by omega
        have hcn : ∀ j, j < q + 1 → chkL first zs j := fun j hj => by
          by_cases e : j = q
          · subst e; exact HCK.out.2 ⟨HR.out.1 rfl, by omega, by omega, k4⟩
          · exact HC.out j (by omega)
        have HCN := Lib.hid hcn; clear hcn
        have nn : ov + 1 ≠ ov - 1 := by omega
        have nn2 : ov - 1 ≠ ov + 1 := by omega
        have g12 : (y != ov + 1 && y != ov - 1) = false := by rcases k4 with k | k <;> simp [k]
        have g13 : (y != ov + 1) = true → (y != ov - 1) = false := fun h => by rcases k4 with k | k <;> first | (simp [k]; done) | (simp [k] at h; done)
        rcases hy1 : (y != ov + 1) with _ | _
        · have hy2 : decide (y = ov + 1) = true := by simpa using hy1
          have HE := Lib.hid HOS; clear k4 g12 g13 nn nn2
          go_wp2_with fail
          go_quiet (fail)
          go_wp2
          go_roundg (len - (q + 1))
          case measure => omega
          case rel => exact ⟨q + 1, by omega, by omega, by go_num, by rw [HOS.out], HCN.out, (by (repeat' (first | (with_reducible exact hB) | (with_reducible refine' Blk.alloc ?_ _) | (with_reducible refine' Blk.drew ?_) | (with_reducible refine' Blk.drewN ?_ _) | (with_reducible refine' Blk.put ?_ ?_) | (with_reducible refine' Blk.far ?_ ?_ _) | exact hB | exact rfl)) <;> (first | omega | (simp <;> omega))), by (repeat' (first | (with_reducible exact hbel) | (with_reducible refine Below.setCell ?_ ?_ _) | (with_reducible refine Below.alloc ?_ ?_ _) | (with_reducible refine Below.drew ?_) | (with_reducible refine below_drewN ?_ _))) <;> (first | omega | (simp <;> omega))⟩
        · have hy2 := g13 hy1
          have hy3 : decide (y = ov + 1) = false := by simpa using hy1
          have hy4 : decide (y = ov - 1) = true := by simpa using hy2
          clear k4 g12 g13 nn nn2
          go_wp2_with fail
          go_quiet (fail)
          go_wp2
          go_roundg (len - (q + 1))
          case measure => omega
          case rel => exact ⟨q + 1, by omega, by omega, by go_num, by rw [HOS.out], HCN.out, (by (repeat' (first | (with_reducible exact hB) | (with_reducible refine' Blk.alloc ?_ _) | (with_reducible refine' Blk.drew ?_) | (with_reducible refine' Blk.drewN ?_ _) | (with_reducible refine' Blk.put ?_ ?_) | (with_reducible refine' Blk.far ?_ ?_ _) | exact hB | exact rfl)) <;> (first | omega | (simp <;> omega))), by (repeat' (first | (with_reducible exact hbel) | (with_reducible refine Below.setCell ?_ ?_ _) | (with_reducible refine Below.alloc ?_ ?_ _) | (with_reducible refine Below.drew ?_) | (with_reducible refine below_drewN ?_ _))) <;> (first | omega | (simp <;> omega))⟩
      · skip
        have e2 := hpp hq0
        have hp0' := hp0 hq0
        have g0 : decide ((0 : Int) < (q : Int)) = true := decide_eq_true (by omega)
        have g0n : decide (0 < q) = true := decide_eq_true (by omega)
        have wq : IntKind.i64.wrap ((q : Int) - 1) = ((q - 1 : Nat) : Int) := by rw [IntWalk.i64_in _ (by omega)]; omega
        have hq1 : q - 1 < len := by omega
        clear hpp hp0 hpz
        by_cases k1 : x < 86400
        · have g4 : decide (x < 86400) = true := decide_eq_true k1
          rw [not_chk (first := first) (zs := zs) (q := q) (by omega) (fun hc => (by have hc := HCK.out.1 hc; have := HR.out; omega))]
          go_wp2_with fail
          go_quiet (fail)
          go_wp2
          go_ret
          exact ⟨rfl, by (repeat' (first | (with_reducible exact hbel) | (with_reducible refine Below.setCell ?_ ?_ _) | (with_reducible refine Below.alloc ?_ ?_ _) | (with_reducible refine Below.drew ?_) | (with_reducible refine below_drewN ?_ _))) <;> (first | omega | (simp <;> omega))⟩
        have g4 : decide (x < 86400) = false := decide_eq_false k1
        by_cases k3 : 137438953472 < x
        · have g6 : decide (137438953472 < x) = true := decide_eq_true k3
          rw [not_chk (first := first) (zs := zs) (q := q) (by omega) (fun hc => (by have hc := HCK.out.1 hc; have := HR.out; omega))]
          go_wp2_with fail
          go_quiet (fail)
          go_wp2
          go_ret
          exact ⟨rfl, by (repeat' (first | (with_reducible exact hbel) | (with_reducible refine Below.setCell ?_ ?_ _) | (with_reducible refine Below.alloc ?_ ?_ _) | (with_reducible refine Below.drew ?_) | (with_reducible refine below_drewN ?_ _))) <;> (first | omega | (simp <;> omega))⟩
        have g6 : decide (137438953472 < x) = false := decide_eq_false k3
        by_cases k0 : r ≠ 0
        · have g5 : decide (r = 0) = false := decide_eq_false k0
          have g5' : (r != 0) = true := by simp; omega
          rw [not_chk (first := first) (zs := zs) (q := q) (by omega) (fun hc => (by have hc := HCK.out.1 hc; have := HR.out; omega))]
          go_wp2_with fail
          go_quiet (fail)
          go_wp2
          go_ret
          exact ⟨rfl, by (repeat' (first | (with_reducible exact hbel) | (with_reducible refine Below.setCell ?_ ?_ _) | (with_reducible refine Below.alloc ?_ ?_ _) | (with_reducible refine Below.drew ?_) | (with_reducible refine below_drewN ?_ _))) <;> (first | omega | (simp <;> omega))⟩
        have k0 : r = 0 := by omega
        subst k0
        by_cases k2 : x < pv + 172800
        · have g7 : decide (x < pv + 172800) = true := decide_eq_true k2
          rw [not_chk (first := first) (zs := zs) (q := q) (by omega) (fun hc => (by have hc := HCK.out.1 hc; have := HR.out; omega))]
          go_wp2_with fail
          go_quiet (fail)
          go_wp2
          go_ret
          exact ⟨rfl, by (repeat' (first | (with_reducible exact hbel) | (with_reducible refine Below.setCell ?_ ?_ _) | (with_reducible refine Below.alloc ?_ ?_ _) | (with_reducible refine Below.drew ?_) | (with_reducible refine below_drewN ?_ _))) <;> (first | omega | (simp <;> omega))⟩
        have g7 : decide (x < pv + 172800) = false := decide_eq_false k2
        by_cases k4 : ¬ (y = ov + 1 ∨ y = ov - 1)
        · have g8 : decide (y = ov + 1) = false := decide_eq_false (by omega)
          have g9 : decide (y = ov - 1) = false := decide_eq_false (by omega)
          have g10 : (y != ov + 1) = true := by simp; omega
          have g11 : (y != ov - 1) = true := by simp; omega
          rw [not_chk (first := first) (zs := zs) (q := q) (by omega) (fun hc => (by have hc := HCK.out.1 hc; have := HR.out; omega))]
          go_wp2_with fail
          go_quiet (fail)
          go_wp2
          go_ret
          exact ⟨rfl, by (repeat' (first | (with_reducible exact hbel) | (with_reducible refine Below.setCell ?_ ?_ _) | (with_reducible refine Below.alloc ?_ ?_ _) | (with_reducible refine Below.drew ?_) | (with_reducible refine below_drewN ?_ _))) <;> (first | omega | (simp <;> omega))⟩
        have k4 : y = ov + 1 ∨ y = ov - 1 := by omega
        have hcn : ∀ j, j < q + 1 → chkL first zs j := fun j hj => by
          by_cases e : j = q
          · subst e; exact HCK.out.2 ⟨HR.out.1 rfl, by omega, by omega, k4⟩
          · exact HC.out j (by omega)
        have HCN := Lib.hid hcn; clear hcn
        have nn : ov + 1 ≠ ov - 1 := by omega
        have nn2 : ov - 1 ≠ ov + 1 := by omega
        have g12 : (y != ov + 1 && y != ov - 1) = false := by rcases k4 with k | k <;> simp [k]
        have g13 : (y != ov + 1) = true → (y != ov - 1) = false := fun h => by rcases k4 with k | k <;> first | (simp [k]; done) | (simp [k] at h; done)
        rcases hy1 : (y != ov + 1) with _ | _
        · have hy2 : decide (y = ov + 1) = true := by simpa using hy1
          have HE := Lib.hid HOS; clear k4 g12 g13 nn nn2
          go_wp2_with fail
          go_quiet (fail)
          go_wp2
          go_roundg (len - (q + 1))
          case measure => omega
          case rel => exact ⟨q + 1, by omega, by omega, by go_num, by rw [HOS.out], HCN.out, (by (repeat' (first | (with_reducible exact hB) | (with_reducible refine' Blk.alloc ?_ _) | (with_reducible refine' Blk.drew ?_) | (with_reducible refine' Blk.drewN ?_ _) | (with_reducible refine' Blk.put ?_ ?_) | (with_reducible refine' Blk.far ?_ ?_ _) | exact hB | exact rfl)) <;> (first | omega | (simp <;> omega))), by (repeat' (first | (with_reducible exact hbel) | (with_reducible refine Below.setCell ?_ ?_ _) | (with_reducible refine Below.alloc ?_ ?_ _) | (with_reducible refine Below.drew ?_) | (with_reducible refine below_drewN ?_ _))) <;> (first | omega | (simp <;> omega))⟩
        · have hy2 := g13 hy1
          have hy3 : decide (y = ov + 1) = false := by simpa using hy1
          have hy4 : decide (y = ov - 1) = true := by simpa using hy2
          clear k4 g12 g13 nn nn2
          go_wp2_with fail
          go_quiet (fail)
          go_wp2
          go_roundg (len - (q + 1))
          case measure => omega
          case rel => exact ⟨q + 1, by omega, by omega, by go_num, by rw [HOS.out], HCN.out, (by (repeat' (first | (with_reducible exact hB) | (with_reducible refine' Blk.alloc ?_ _) | (with_reducible refine' Blk.drew ?_) | (with_reducible refine' Blk.drewN ?_ _) | (with_reducible refine' Blk.put ?_ ?_) | (with_reducible refine' Blk.far ?_ ?_ _) | exact hB | exact rfl)) <;> (first | omega | (simp <;> omega))), by (repeat' (first | (with_reducible exact hbel) | (with_reducible refine Below.setCell ?_ ?_ _) | (with_reducible refine Below.alloc ?_ ?_ _) | (with_reducible refine Below.drew ?_) | (with_reducible refine below_drewN ?_ _))) <;> (first | omega | (simp <;> omega))⟩
    · obtain rfl : q = len := by omega
      have gk : decide ((q : Int) < (q : Int)) = false := decide_eq_false (by omega)
      have hv : lvB first zs = true := lvB_true.2 ⟨by omega, by omega, by omega, fun i hi => HC.out i (by omega)⟩
      have cB := hB.cell; have fB := hB.frozen; have lB := hB.lt
      go_wp2
      go_ret
      exact ⟨by rw [hv]; rfl, by (repeat' (first | (with_reducible exact hbel) | (with_reducible refine Below.setCell ?_ ?_ _) | (with_reducible refine Below.alloc ?_ ?_ _) | (with_reducible refine Below.drew ?_) | (with_reducible refine below_drewN ?_ _))) <;> (first | omega | (simp <;> omega))⟩
end Go.Proofs.Ytmebkbnildjfhaa
