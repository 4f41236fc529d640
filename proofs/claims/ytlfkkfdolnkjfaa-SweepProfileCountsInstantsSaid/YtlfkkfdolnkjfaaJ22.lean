/- Texts joined: RSwA, RSwB, RSwC -/
import Derived.Test.YtlfkkfdolnkjfaaRLists
import Derived.Test.YtlfkkfdolnkjfaaJ19
namespace Go.Proofs.Ytlfkkfdolnkjfaa
open Go.RowKit Go.Shelf Go.Sort
set_option linter.unusedSimpArgs false
set_option linter.unusedVariables false

def SpRel (w : World) (za zb : List Pc) (G : Nat) (i : Value) (wr : World) : Prop := ∃ q : Nat, q ≤ za.length ∧ G = za.length - q ∧ i = .int .i64 q ∧ (∀ j, j < q → za.getD j ⟨0, 0, 0⟩ = zb.getD j ⟨0, 0, 0⟩) ∧ Below w.heap.size w wr
theorem same_pcs {za zb : List Pc} (hl : za.length = zb.length) (h : ∀ j, j < za.length → za.getD j ⟨0, 0, 0⟩ = zb.getD j ⟨0, 0, 0⟩) : za = zb := by
  refine List.ext_getElem hl (fun i h1 h2 => ?_)
  have := h i h1
  rw [List.getD_eq_getElem?_getD, List.getD_eq_getElem?_getD, List.getElem?_eq_getElem h1, List.getElem?_eq_getElem h2] at this
  exact this
def tupP (p : Pc) : Int × Int × Int := (p.lo, p.hi, p.n)
theorem tupP_inj : ∀ (a b : List Pc), a.map tupP = b.map tupP → a = b
  | [], [], _ => rfl
  | [], _ :: _, h => by simp at h
  | _ :: _, [], h => by simp at h
  | p :: a, q :: b, h => by
    simp only [List.map_cons, List.cons.injEq] at h
    obtain ⟨h1, h2⟩ := h
    obtain ⟨p0, p1, p2⟩ := p
    obtain ⟨q0, q1, q2⟩ := q
    simp only [tupP, Prod.mk.injEq] at h1
    obtain ⟨rfl, rfl, rfl⟩ := h1
    rw [tupP_inj a b h2]
def eqP (za zb : List Pc) : Bool := decide (za.map tupP = zb.map tupP)
theorem eqP_yes {za zb : List Pc} (h : za = zb) : eqP za zb = true := decide_eq_true (by rw [h])
theorem eqP_no {za zb : List Pc} (h : ¬ za = zb) : eqP za zb = false := decide_eq_false (fun e => h (tupP_inj _ _ e))
set_option maxRecDepth 100000 in
set_option maxHeartbeats 2000000 in
theorem psame_any (A B : Option Addr) (la lb ca cb : Nat) (za zb : List Pc) (w : World) (h : PcsAt w A la za) (k : PcsAt w B lb zb) :
    Calls Try.prog 30 #[.slice A la ca, .slice B lb cb] w (RB w (.bool (eqP za zb))) := by
  have ha := h.1; have hb := k.1
  have la0 := h.2.1; have lb0 := k.2.1
  subst ha; subst hb
  have H := Lib.hid h; have K := Lib.hid k; clear h k
  by_cases hl : za.length = zb.length
  · have g0 : decide ((za.length : Int) = (zb.length : Int)) = true := decide_eq_true (by omega)
    have g0b : (((za.length : Int)) == ((zb.length : Int))) = true := by simp [hl]
    have g0c : (((za.length : Int)) != ((zb.length : Int))) = false := by simp [hl]
    have HL := Lib.hid hl
    go_enter Try.func30, Try.ntmps30
    clear hl
    go_wp2
    go_loopg [5] za.length (fun G i wr => SpRel w za zb G i wr)
    case atStart => exact ⟨0, by omega, by omega, rfl, fun j hj => by omega, by (repeat' (first | (with_reducible exact Below.refl _ _) | (with_reducible refine Below.setCell ?_ ?_ _) | (with_reducible refine Below.alloc ?_ ?_ _) | (with_reducible refine Below.drew ?_) | (with_reducible refine below_drewN ?_ _))) <;> (first | omega | (simp <;> omega))⟩
    case round =>
      obtain ⟨q, hq, rfl, rfl, hs, KR⟩ := hrel
      have ZR := KR.size
      have HS := Lib.hid hs; clear hs
      by_cases hlt : q < za.length
      · have gk : decide ((q : Int) < (za.length : Int)) = true := decide_eq_true (by omega)
        have wq : IntKind.i64.wrap ((q : Int) + 1) = ((q + 1 : Nat) : Int) := by rw [IntWalk.i64_in _ (by omega)]; omega
        have hlb : q < zb.length := by have := HL.out; omega
        obtain ⟨bl, off, rfl, hb, hcs⟩ := H.out.2.2 (by omega)
        obtain ⟨e0, e1, e2⟩ := hcs q hlt
        clear hcs
        have e0 := (KR.cell (p := ⟨bl, off + q * 3, none⟩) hb).trans e0
        have e1 := (KR.cell (p := ⟨bl, off + q * 3 + 1, none⟩) hb).trans e1
        have e2 := (KR.cell (p := ⟨bl, off + q * 3 + 2, none⟩) hb).trans e2
        obtain ⟨bl', off', rfl, hb', hcs'⟩ := K.out.2.2 (by omega)
        obtain ⟨e3, e4, e5⟩ := hcs' q hlb
        clear hcs'
        have e3 := (KR.cell (p := ⟨bl', off' + q * 3, none⟩) hb').trans e3
        have e4 := (KR.cell (p := ⟨bl', off' + q * 3 + 1, none⟩) hb').trans e4
        have e5 := (KR.cell (p := ⟨bl', off' + q * 3 + 2, none⟩) hb').trans e5
        obtain ⟨x, hx⟩ : ∃ x, za.getD q ⟨0, 0, 0⟩ = x := ⟨_, rfl⟩
        obtain ⟨y, hy⟩ : ∃ y, zb.getD q ⟨0, 0, 0⟩ = y := ⟨_, rfl⟩
        rw [hx] at e0 e1 e2
        rw [hy] at e3 e4 e5
        have HX := Lib.hid hx; have HY := Lib.hid hy; clear hx hy
        obtain ⟨x0, x1, x2⟩ := x
        obtain ⟨y0, y1, y2⟩ := y
        dsimp only at e0 e1 e2 e3 e4 e5
        by_cases c : x0 = y0 ∧ x1 = y1 ∧ x2 = y2
        · obtain ⟨rfl, rfl, rfl⟩ := c
          go_wp2_with fail
          go_quiet (fail)
          clear e0 e1 e2 e3 e4 e5
          go_wp2
          go_roundg (za.length - (q + 1))
          case measure => omega
          case rel => exact ⟨q + 1, by omega, by omega, by go_num, fun j hj => by by_cases e9 : j = q; (subst e9; rw [HX.out, HY.out]); (exact HS.out j (by omega)), by (repeat' (first | (with_reducible exact KR) | (with_reducible refine Below.setCell ?_ ?_ _) | (with_reducible refine Below.alloc ?_ ?_ _) | (with_reducible refine Below.drew ?_) | (with_reducible refine below_drewN ?_ _))) <;> (first | omega | (simp <;> omega))⟩
        · have hne : za ≠ zb := fun e => c (by
            have h1 := HX.out; have h2 := HY.out
            rw [e] at h1
            rw [h1] at h2
            exact ⟨congrArg Pc.lo h2, congrArg Pc.hi h2, congrArg Pc.n h2⟩)
          have HV := Lib.hid (eqP_no hne); clear hne
          by_cases c0 : x0 = y0
          · subst c0
            by_cases c1 : x1 = y1
            · subst c1
              have c2 : ¬ x2 = y2 := fun h => c ⟨rfl, rfl, h⟩
              have d1 : decide (x2 = y2) = false := decide_eq_false c2
              have d2 : (x2 == y2) = false := by simpa using c2
              clear c
              go_wp2_with fail
              go_quiet (fail)
              clear e0 e1 e2 e3 e4 e5
              go_wp2
              go_ret
              exact ⟨by rw [HV.out]; rfl, by (repeat' (first | (with_reducible exact KR) | (with_reducible refine Below.setCell ?_ ?_ _) | (with_reducible refine Below.alloc ?_ ?_ _) | (with_reducible refine Below.drew ?_) | (with_reducible refine below_drewN ?_ _))) <;> (first | omega | (simp <;> omega))⟩
            · have d1 : decide (x1 = y1) = false := decide_eq_false c1
              have d2 : (x1 == y1) = false := by simpa using c1
              clear c
              go_wp2_with fail
              go_quiet (fail)
              clear e0 e1 e2 e3 e4 e5
              go_wp2
              go_ret
              exact ⟨by rw [HV.out]; rfl, by (repeat' (first | (with_reducible exact KR) | (with_reducible refine Below.setCell ?_ ?_ _) | (with_reducible refine Below.alloc ?_ ?_ _) | (with_reducible refine Below.drew ?_) | (with_reducible refine below_drewN ?_ _))) <;> (first | omega | (simp <;> omega))⟩
          · have d1 : decide (x0 = y0) = false := decide_eq_false c0
            have d2 : (x0 == y0) = false := by simpa using c0
            clear c
            go_wp2_with fail
            go_quiet (fail)
            clear e0 e1 e2 e3 e4 e5
            go_wp2
            go_ret
            exact ⟨by rw [HV.out]; rfl, by (repeat' (first | (with_reducible exact KR) | (with_reducible refine Below.setCell ?_ ?_ _) | (with_reducible refine Below.alloc ?_ ?_ _) | (with_reducible refine Below.drew ?_) | (with_reducible refine below_drewN ?_ _))) <;> (first | omega | (simp <;> omega))⟩
      · obtain rfl : za.length = q := by omega
        have gk : decide ((za.length : Int) < (za.length : Int)) = false := decide_eq_false (by omega)
        have HV := Lib.hid (eqP_yes (same_pcs HL.out HS.out))
        go_wp2
        go_ret
        exact ⟨by rw [HV.out]; rfl, by (repeat' (first | (with_reducible exact KR) | (with_reducible refine Below.setCell ?_ ?_ _) | (with_reducible refine Below.alloc ?_ ?_ _) | (with_reducible refine Below.drew ?_) | (with_reducible refine below_drewN ?_ _))) <;> (first | omega | (simp <;> omega))⟩
  · have g0 : decide ((za.length : Int) = (zb.length : Int)) = false := decide_eq_false (by omega)
    have g0b : (((za.length : Int)) == ((zb.length : Int))) = false := by simp; omega
    have g0c : (((za.length : Int)) != ((zb.length : Int))) = true := by simp; omega
    have HV := Lib.hid (eqP_no (za := za) (zb := zb) (fun e => hl (by rw [e])))
    go_enter Try.func30, Try.ntmps30
    clear hl
    go_wp2
    go_ret
    exact ⟨by rw [HV.out]; rfl, (by (repeat' (first | (with_reducible exact Below.refl _ _) | (with_reducible refine Below.setCell ?_ ?_ _) | (with_reducible refine Below.alloc ?_ ?_ _) | (with_reducible refine Below.drew ?_) | (with_reducible refine below_drewN ?_ _))) <;> (first | omega | (simp <;> omega)))⟩
end Go.Proofs.Ytlfkkfdolnkjfaa
namespace Go.Proofs.Ytlfkkfdolnkjfaa
open Go.RowKit Go.Shelf Go.Sort
set_option linter.unusedSimpArgs false
set_option linter.unusedVariables false

end Go.Proofs.Ytlfkkfdolnkjfaa
namespace Go.Proofs.Ytlfkkfdolnkjfaa
open Go.RowKit Go.Shelf Go.Sort
set_option linter.unusedSimpArgs false
set_option linter.unusedVariables false

end Go.Proofs.Ytlfkkfdolnkjfaa
