/- The reference's Common and SameSpans, for every list. -/
import Derived.BigQuiet
import Derived.Deep.LoopGhost
import Derived.Deep.QuietTactic
import Derived.Deep.RegionWith
import Derived.Test.YtlfkkfdolnkjfaaCalmP
import Derived.Test.YtlfkkfdolnkjfaaCommon
import Derived.Test.YtlfkkfdolnkjfaaJ6
import Derived.Test.YtlfkkfdolnkjfaaRUnW
namespace Go.Proofs.Ytlfkkfdolnkjfaa
open Go.RowKit Go.Shelf Go.Sort
set_option linter.unusedSimpArgs false
set_option linter.unusedVariables false

def SmRel (w : World) (za zb : List (Int × Int)) (G : Nat) (i : Value) (wr : World) : Prop := ∃ q : Nat, q ≤ za.length ∧ G = za.length - q ∧ i = .int .i64 q ∧ (∀ j, j < q → za.getD j (0, 0) = zb.getD j (0, 0)) ∧ Below w.heap.size w wr
theorem same_lists {za zb : List (Int × Int)} (hl : za.length = zb.length) (h : ∀ j, j < za.length → za.getD j (0, 0) = zb.getD j (0, 0)) : za = zb := by
  refine List.ext_getElem hl (fun i h1 h2 => ?_)
  have := h i h1
  rw [List.getD_eq_getElem?_getD, List.getD_eq_getElem?_getD, List.getElem?_eq_getElem h1, List.getElem?_eq_getElem h2] at this
  exact this
set_option maxRecDepth 100000 in
set_option maxHeartbeats 2000000 in
theorem same_any (A B : Option Addr) (la lb ca cb : Nat) (za zb : List (Int × Int)) (w : World) (h : SpansAt w A la za) (k : SpansAt w B lb zb) :
    Calls Try.prog 26 #[.slice A la ca, .slice B lb cb] w (RB w (.bool (decide (za = zb)))) := by
  have ha := h.1; have hb := k.1
  have la0 := h.2.1; have lb0 := k.2.1
  subst ha; subst hb
  have H := Lib.hid h; have K := Lib.hid k; clear h k
  by_cases hl : za.length = zb.length
  · have g0 : decide ((za.length : Int) = (zb.length : Int)) = true := decide_eq_true (by omega)
    have g0b : (((za.length : Int)) == ((zb.length : Int))) = true := by simp [hl]
    have g0c : (((za.length : Int)) != ((zb.length : Int))) = false := by simp [hl]
    have HL := Lib.hid hl
    go_enter Try.func26, Try.ntmps26
    clear hl
    go_wp2
    go_loopg [5] za.length (fun G i wr => SmRel w za zb G i wr)
    case atStart => exact ⟨0, by omega, by omega, rfl, fun j hj => by omega, by (repeat' (first | (with_reducible exact Below.refl _ _) | (with_reducible refine Below.setCell ?_ ?_ _) | (with_reducible refine Below.alloc ?_ ?_ _) | (with_reducible refine Below.drew ?_) | (with_reducible refine below_drewN ?_ _))) <;> (first | omega | (simp <;> omega))⟩
    case round =>
      obtain ⟨q, hq, rfl, rfl, hs, KR⟩ := hrel
      have ZR := KR.size
      have HS := Lib.hid hs; clear hs
      by_cases hlt : q < za.length
      · have gk : decide ((q : Int) < (za.length : Int)) = true := decide_eq_true (by omega)
        have wq : IntKind.i64.wrap ((q : Int) + 1) = ((q + 1 : Nat) : Int) := by rw [IntWalk.i64_in _ (by omega)]; omega
        have hlb : q < zb.length := by have := HL.out; omega
        obtain ⟨bl, off, rfl, hb, hcs⟩ := H.out.2.2 (by omega)
        obtain ⟨e0, e1⟩ := hcs q hlt
        clear hcs
        have e0 := (KR.cell (p := ⟨bl, off + q * 2, none⟩) hb).trans e0
        have e1 := (KR.cell (p := ⟨bl, off + q * 2 + 1, none⟩) hb).trans e1
        obtain ⟨bl', off', rfl, hb', hcs'⟩ := K.out.2.2 (by omega)
        obtain ⟨e2, e3⟩ := hcs' q hlb
        clear hcs'
        have e2 := (KR.cell (p := ⟨bl', off' + q * 2, none⟩) hb').trans e2
        have e3 := (KR.cell (p := ⟨bl', off' + q * 2 + 1, none⟩) hb').trans e3
        obtain ⟨x, hx⟩ : ∃ x, za.getD q (0, 0) = x := ⟨_, rfl⟩
        obtain ⟨y, hy⟩ : ∃ y, zb.getD q (0, 0) = y := ⟨_, rfl⟩
        rw [hx] at e0 e1
        rw [hy] at e2 e3
        have HX := Lib.hid hx; have HY := Lib.hid hy; clear hx hy
        obtain ⟨x0, x1⟩ := x
        obtain ⟨y0, y1⟩ := y
        dsimp only at e0 e1 e2 e3
        by_cases c : x0 = y0 ∧ x1 = y1
        · obtain ⟨rfl, rfl⟩ := c
          go_wp2_with fail
          go_quiet (fail)
          clear e0 e1 e2 e3
          go_wp2
          go_roundg (za.length - (q + 1))
          case measure => omega
          case rel => exact ⟨q + 1, by omega, by omega, by go_num, fun j hj => by by_cases e9 : j = q; (subst e9; rw [HX.out, HY.out]); (exact HS.out j (by omega)), by (repeat' (first | (with_reducible exact KR) | (with_reducible refine Below.setCell ?_ ?_ _) | (with_reducible refine Below.alloc ?_ ?_ _) | (with_reducible refine Below.drew ?_) | (with_reducible refine below_drewN ?_ _))) <;> (first | omega | (simp <;> omega))⟩
        · have hne : za ≠ zb := fun e => c (by
            have h1 := HX.out; have h2 := HY.out
            rw [e] at h1
            rw [h1] at h2
            exact ⟨congrArg Prod.fst h2, congrArg Prod.snd h2⟩)
          have HV := Lib.hid (decide_eq_false hne); clear hne
          by_cases c0 : x0 = y0
          · subst c0
            have c1 : ¬ x1 = y1 := fun h => c ⟨rfl, h⟩
            have d1 : decide (x1 = y1) = false := decide_eq_false c1
            have d2 : (x1 == y1) = false := by simpa using c1
            clear c
            go_wp2_with fail
            go_quiet (fail)
            clear e0 e1 e2 e3
            go_wp2
            go_ret
            exact ⟨by rw [HV.out]; rfl, by (repeat' (first | (with_reducible exact KR) | (with_reducible refine Below.setCell ?_ ?_ _) | (with_reducible refine Below.alloc ?_ ?_ _) | (with_reducible refine Below.drew ?_) | (with_reducible refine below_drewN ?_ _))) <;> (first | omega | (simp <;> omega))⟩
          · have d1 : decide (x0 = y0) = false := decide_eq_false c0
            have d2 : (x0 == y0) = false := by simpa using c0
            clear c
            go_wp2_with fail
            go_quiet (fail)
            clear e0 e1 e2 e3
            go_wp2
            go_ret
            exact ⟨by rw [HV.out]; rfl, by (repeat' (first | (with_reducible exact KR) | (with_reducible refine Below.setCell ?_ ?_ _) | (with_reducible refine Below.alloc ?_ ?_ _) | (with_reducible refine Below.drew ?_) | (with_reducible refine below_drewN ?_ _))) <;> (first | omega | (simp <;> omega))⟩
      · obtain rfl : za.length = q := by omega
        have gk : decide ((za.length : Int) < (za.length : Int)) = false := decide_eq_false (by omega)
        have HV := Lib.hid (decide_eq_true (same_lists HL.out HS.out))
        go_wp2
        go_ret
        exact ⟨by rw [HV.out]; rfl, by (repeat' (first | (with_reducible exact KR) | (with_reducible refine Below.setCell ?_ ?_ _) | (with_reducible refine Below.alloc ?_ ?_ _) | (with_reducible refine Below.drew ?_) | (with_reducible refine below_drewN ?_ _))) <;> (first | omega | (simp <;> omega))⟩
  · have g0 : decide ((za.length : Int) = (zb.length : Int)) = false := decide_eq_false (by omega)
    have g0b : (((za.length : Int)) == ((zb.length : Int))) = false := by simp; omega
    have g0c : (((za.length : Int)) != ((zb.length : Int))) = true := by simp; omega
    have HV := Lib.hid (decide_eq_false (p := za = zb) (fun e => hl (by rw [e])))
    go_enter Try.func26, Try.ntmps26
    clear hl
    go_wp2
    go_ret
    exact ⟨by rw [HV.out]; rfl, (by (repeat' (first | (with_reducible exact Below.refl _ _) | (with_reducible refine Below.setCell ?_ ?_ _) | (with_reducible refine Below.alloc ?_ ?_ _) | (with_reducible refine Below.drew ?_) | (with_reducible refine below_drewN ?_ _))) <;> (first | omega | (simp <;> omega)))⟩
end Go.Proofs.Ytlfkkfdolnkjfaa
