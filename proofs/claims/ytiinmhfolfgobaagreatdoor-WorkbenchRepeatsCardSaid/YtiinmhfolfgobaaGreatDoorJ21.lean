/- Texts joined: RSwD, RSwE, RSwF, RSwG, Qr, El, KnownP, I11O, D15P -/
import Derived.Test.YtiinmhfolfgobaaGreatDoorAppX
import Derived.Test.YtiinmhfolfgobaaGreatDoorJ8
import Derived.Test.YtiinmhfolfgobaaGreatDoorJ3
import Derived.Test.YtiinmhfolfgobaaGreatDoorJ19
import Derived.Test.YtiinmhfolfgobaaGreatDoorJ17
import Derived.Test.YtiinmhfolfgobaaGreatDoorJ10
import Derived.Test.YtiinmhfolfgobaaGreatDoorJ11
namespace Go.Proofs.YtiinmhfolfgobaaGreatDoor
open Go.RowKit Go.Shelf Go.Sort
set_option linter.unusedSimpArgs false
set_option linter.unusedVariables false

/-- Numbers in memory; none is nil. -/
def NumI (w : World) (A : Option Addr) (len cap : Nat) (xs : List Int) : Prop :=
  xs.length = len ∧ len ≤ cap ∧ len ≤ 1000 ∧ (len = 0 → A = none ∧ cap = 0) ∧ (0 < len → ∃ b off, A = some ⟨b, off, none⟩ ∧ b < w.heap.size ∧ ∀ j, j < len → w.cell? ⟨b, off + j, none⟩ = some (.int .i64 (xs.getD j 0)))
theorem NumI.below {w w' : World} {A : Option Addr} {len cap : Nat} {xs : List Int} (h : NumI w A len cap xs) (hb : Below w.heap.size w w') : NumI w' A len cap xs := by
  obtain ⟨h1, h2, h3, h4, h5⟩ := h
  refine ⟨h1, h2, h3, h4, fun hl => ?_⟩
  obtain ⟨b, off, e, hlt, hc⟩ := h5 hl
  exact ⟨b, off, e, Nat.lt_of_lt_of_le hlt hb.size, fun j hj => cell_below hb (hc j hj)⟩
end Go.Proofs.YtiinmhfolfgobaaGreatDoor
namespace Go.Proofs.YtiinmhfolfgobaaGreatDoor
open Go.RowKit Go.Shelf Go.Sort
set_option linter.unusedSimpArgs false
set_option linter.unusedVariables false

end Go.Proofs.YtiinmhfolfgobaaGreatDoor
namespace Go.Proofs.YtiinmhfolfgobaaGreatDoor
open Go.RowKit Go.Shelf Go.Sort
set_option linter.unusedSimpArgs false
set_option linter.unusedVariables false

theorem grown_belowP {w w' : World} (X : Option Nat) (h : Below w.heap.size w w') : w.grownBy w' X := ⟨h.os, h.tape, h.output, h.size, fun k hk _ => h.block k hk⟩
theorem RowP.below {w w' : World} {base : Nat} {v : Value} {ps : List Pc} (h : RowP w base v ps) (hb : Below w.heap.size w w') : RowP w' base v ps := RowP.kept h (grown_belowP none hb) (fun k _ e => by cases e)
end Go.Proofs.YtiinmhfolfgobaaGreatDoor
namespace Go.Proofs.YtiinmhfolfgobaaGreatDoor
open Go.RowKit Go.Shelf Go.Sort
set_option linter.unusedSimpArgs false
set_option linter.unusedVariables false

end Go.Proofs.YtiinmhfolfgobaaGreatDoor
namespace Go.Proofs.YtiinmhfolfgobaaGreatDoor
open Go.RowKit Go.Shelf Go.Sort
set_option linter.unusedSimpArgs false
set_option linter.unusedVariables false

end Go.Proofs.YtiinmhfolfgobaaGreatDoor
namespace Go.Proofs.YtiinmhfolfgobaaGreatDoor
open Go.RowKit

theorem hi_ceil (x e p : Int) (he : 0 < e) : quo x 1000000000 e true ≤ p ↔ x * 1000000000 ≤ p * e := by
  show -(-(x * 1000000000) / e) ≤ p ↔ _
  have h : (-p ≤ -(x * 1000000000) / e) ↔ (-p * e ≤ -(x * 1000000000)) := Int.le_ediv_iff_mul_le he
  rw [Int.neg_mul] at h
  constructor
  · intro k; have := h.1 (by omega); omega
  · intro k; have := h.2 (by omega); omega
theorem lo_mul (d p : Int) (hp : 0 ≤ p) : elLo d p * (1000000000 + p) ≤ d * 1000000000 := by
  show d * 1000000000 / (1000000000 + p) * (1000000000 + p) ≤ _
  exact Int.ediv_mul_le _ (by omega)
theorem le_lo {d p q : Int} (hp : 0 ≤ p) (h : q * (1000000000 + p) ≤ d * 1000000000) : q ≤ elLo d p := by
  show q ≤ d * 1000000000 / (1000000000 + p)
  exact (Int.le_ediv_iff_mul_le (by omega)).2 h
theorem hi_mul (d p : Int) (hp : p ≤ 1000000) : d * 1000000000 ≤ elHi d p * (1000000000 - p) :=
  (hi_ceil d (1000000000 - p) (elHi d p) (by omega)).1 (Int.le_refl _)
theorem hi_le {d p q : Int} (hp : p ≤ 1000000) (h : d * 1000000000 ≤ q * (1000000000 - p)) : elHi d p ≤ q :=
  (hi_ceil d (1000000000 - p) q (by omega)).2 h
theorem lo_le_of {d p q : Int} (hp : 0 ≤ p) (h : d * 1000000000 ≤ q * (1000000000 + p)) : elLo d p ≤ q :=
  Int.le_of_mul_le_mul_right (Int.le_trans (lo_mul d p hp) h) (by omega)
theorem le_hi_of {d p q : Int} (hp : p ≤ 1000000) (h : q * (1000000000 - p) ≤ d * 1000000000) : q ≤ elHi d p :=
  Int.le_of_mul_le_mul_right (Int.le_trans h (hi_mul d p hp)) (by omega)
theorem lo_pos {d p : Int} (hd : 0 ≤ d) (hp : 0 ≤ p) (_ : p ≤ 1000000) : 0 ≤ elLo d p := le_lo hp (by omega)
theorem lo_le {d p : Int} (hd : 0 ≤ d) (hp : 0 ≤ p) (_ : p ≤ 1000000) : elLo d p ≤ d := lo_le_of hp (by rw [Int.mul_add]; have := Int.mul_nonneg hd hp; omega)
theorem le_hi {d p : Int} (hd : 0 ≤ d) (hp : 0 ≤ p) (hp1 : p ≤ 1000000) : d ≤ elHi d p := le_hi_of hp1 (by rw [Int.mul_sub]; have := Int.mul_nonneg hd hp; omega)
theorem hi_two {d p : Int} (hd : 0 ≤ d) (_ : 0 ≤ p) (hp1 : p ≤ 1000000) : elHi d p ≤ 2 * d := hi_le hp1 (by
  have : d * p ≤ d * 1000000 := Int.mul_le_mul_of_nonneg_left hp1 hd
  rw [Int.mul_assoc, Int.mul_sub]; omega)
theorem el_span {d p : Int} (hd : 0 ≤ d) (hp : 0 ≤ p) (hp1 : p ≤ 1000000) (hd1 : d ≤ 576460752303423488) : vS (elLo d p) (elHi d p) = true := by
  have := lo_pos hd hp hp1; have := lo_le hd hp hp1; have := le_hi hd hp hp1; have := hi_two hd hp hp1
  exact vS_true.2 ⟨by omega, by omega, by omega⟩
theorem lo_longer {d p : Int} (_ : 0 ≤ d) (hp : 0 ≤ p) (_ : p ≤ 1000000) {m : Int} (h : 0 ≤ m) : elLo d p ≤ elLo (d + m) p := le_lo hp (by have := lo_mul d p hp; omega)
theorem el_none {d : Int} : elLo d 0 = d ∧ elHi d 0 = d := by
  constructor
  · show d * 1000000000 / (1000000000 + 0) = d; omega
  · show -(-(d * 1000000000) / (1000000000 - 0)) = d; omega
end Go.Proofs.YtiinmhfolfgobaaGreatDoor
namespace Go.Proofs.YtiinmhfolfgobaaGreatDoor
open Go.RowKit

/-- A count. -/
def ctB (n : Int) : Bool := decide (0 ≤ n ∧ n ≤ 1152921504606846976)
/-- What Check returns. -/
def kE (at_ lo hi ppb le re : Int) : Int := if vS lo hi = false then 3 else if vT at_ = true ∧ 0 ≤ ppb ∧ ppb ≤ 1000000 ∧ ctB le = true ∧ ctB re = true then 0 else 4
theorem kE_3 {at_ lo hi ppb le re : Int} (h : vS lo hi = false) : kE at_ lo hi ppb le re = 3 := by unfold kE; rw [if_pos h]
theorem kE_4 {at_ lo hi ppb le re : Int} (h : vS lo hi = true) (h' : ¬ (vT at_ = true ∧ 0 ≤ ppb ∧ ppb ≤ 1000000 ∧ ctB le = true ∧ ctB re = true)) : kE at_ lo hi ppb le re = 4 := by unfold kE; rw [if_neg (by rw [h]; simp), if_neg h']
theorem kE_0 {at_ lo hi ppb le re : Int} (h : vS lo hi = true) (h1 : vT at_ = true) (h2 : 0 ≤ ppb) (h3 : ppb ≤ 1000000) (h4 : ctB le = true) (h5 : ctB re = true) : kE at_ lo hi ppb le re = 0 := by unfold kE; rw [if_neg (by rw [h]; simp), if_pos ⟨h1, h2, h3, h4, h5⟩]
theorem kE_all {at_ lo hi ppb le re : Int} (h : kE at_ lo hi ppb le re = 0) : vS lo hi = true ∧ vT at_ = true ∧ 0 ≤ ppb ∧ ppb ≤ 1000000 ∧ ctB le = true ∧ ctB re = true := by
  unfold kE at h
  split at h
  · omega
  · rename_i q
    split at h
    · rename_i q'
      exact ⟨by simpa using q, q'⟩
    · omega
/-- A span and an error. -/
def V3 (x : Int × Int × Int) : Value := .tuple #[.agg #[.int .i64 x.1, .int .i64 x.2.1], .int .i64 x.2.2]
def opT (ok in_ : Bool) (lo hi : Int) : Int × Int × Int := if ok then (if in_ then (if vS lo hi then (lo, hi, 0) else (0, 0, 4)) else (0, 0, 4)) else (0, 0, 3)
theorem opV_opT (ok in_ : Bool) (lo hi : Int) : opV ok in_ lo hi = V3 (opT ok in_ lo hi) := by
  unfold opV opT mkS V3
  cases ok <;> cases in_ <;> simp
  split <;> rfl
/-- What Now returns. -/
def nowT (at_ lo hi ppb le re u : Int) : Int × Int × Int := if kE at_ lo hi ppb le re ≠ 0 then (0, 0, kE at_ lo hi ppb le re) else if u < at_ then (0, 0, 12) else if vT u = false then (0, 0, 4) else opT (vS lo hi) (inD (u - at_) ppb) (lo + elLo (u - at_) ppb) (hi + elHi (u - at_) ppb)
theorem nowT_e {at_ lo hi ppb le re u : Int} (h : kE at_ lo hi ppb le re ≠ 0) : nowT at_ lo hi ppb le re u = (0, 0, kE at_ lo hi ppb le re) := by unfold nowT; rw [if_pos h]
theorem nowT_12 {at_ lo hi ppb le re u : Int} (h : kE at_ lo hi ppb le re = 0) (h' : u < at_) : nowT at_ lo hi ppb le re u = (0, 0, 12) := by unfold nowT; rw [if_neg (by omega), if_pos h']
theorem nowT_4 {at_ lo hi ppb le re u : Int} (h : kE at_ lo hi ppb le re = 0) (h' : ¬ u < at_) (h2 : vT u = false) : nowT at_ lo hi ppb le re u = (0, 0, 4) := by unfold nowT; rw [if_neg (by omega), if_neg h', if_pos h2]
theorem nowT_ok {at_ lo hi ppb le re u : Int} (h : kE at_ lo hi ppb le re = 0) (h' : ¬ u < at_) (h2 : vT u = true) : nowT at_ lo hi ppb le re u = opT (vS lo hi) (inD (u - at_) ppb) (lo + elLo (u - at_) ppb) (hi + elHi (u - at_) ppb) := by
  unfold nowT; rw [if_neg (by omega), if_neg h', if_neg (by rw [h2]; simp)]
/-- Known and all: what Learn returns. -/
def V6 (at_ lo hi ppb le re : Int) (ok : Bool) (e : Int) : Value := .tuple #[.agg #[.int .i64 at_, .int .i64 lo, .int .i64 hi, .int .i64 ppb, .int .i64 le, .int .i64 re], .bool ok, .int .i64 e]
structure Lrn where
  (at_ lo hi ppb le re : Int) (ok : Bool) (e : Int)
def Lrn.V (x : Lrn) : Value := V6 x.at_ x.lo x.hi x.ppb x.le x.re x.ok x.e
def lrn (at_ lo hi ppb le re u c d : Int) : Lrn :=
  if (nowT at_ lo hi ppb le re u).2.2 ≠ 0 then ⟨0, 0, 0, 0, 0, 0, false, (nowT at_ lo hi ppb le re u).2.2⟩ else if vS c d = false then ⟨0, 0, 0, 0, 0, 0, false, 3⟩ else
  if mtB (nowT at_ lo hi ppb le re u).1 (nowT at_ lo hi ppb le re u).2.1 c d then ⟨u, max (nowT at_ lo hi ppb le re u).1 c, min (nowT at_ lo hi ppb le re u).2.1 d, ppb, min (le + 1) 1152921504606846976, re, true, 0⟩
  else ⟨at_, lo, hi, ppb, le, min (re + 1) 1152921504606846976, false, 0⟩
section
variable {at_ lo hi ppb le re u c d x y : Int}
theorem lrn_e {e : Int} (h : nowT at_ lo hi ppb le re u = (x, y, e)) (he : e ≠ 0) : lrn at_ lo hi ppb le re u c d = ⟨0, 0, 0, 0, 0, 0, false, e⟩ := by unfold lrn; rw [h]; rw [if_pos he]
theorem lrn_3 (h : nowT at_ lo hi ppb le re u = (x, y, 0)) (h' : vS c d = false) : lrn at_ lo hi ppb le re u c d = ⟨0, 0, 0, 0, 0, 0, false, 3⟩ := by unfold lrn; rw [h]; rw [if_neg (by simp), if_pos h']
theorem lrn_yes (h : nowT at_ lo hi ppb le re u = (x, y, 0)) (h' : vS c d = true) (hm : mtB x y c d = true) : lrn at_ lo hi ppb le re u c d = ⟨u, max x c, min y d, ppb, min (le + 1) 1152921504606846976, re, true, 0⟩ := by
  unfold lrn; rw [h]; rw [if_neg (by simp), if_neg (by rw [h']; simp), if_pos hm]
theorem lrn_no (h : nowT at_ lo hi ppb le re u = (x, y, 0)) (h' : vS c d = true) (hm : mtB x y c d = false) : lrn at_ lo hi ppb le re u c d = ⟨at_, lo, hi, ppb, le, min (re + 1) 1152921504606846976, false, 0⟩ := by
  unfold lrn; rw [h]; rw [if_neg (by simp), if_neg (by rw [h']; simp), if_neg (by rw [hm]; simp)]
theorem now_0 (h : nowT at_ lo hi ppb le re u = (x, y, 0)) : kE at_ lo hi ppb le re = 0 := by
  by_cases q : kE at_ lo hi ppb le re = 0
  · exact q
  · rw [nowT_e q] at h; injection h with _ h; injection h with _ h
end

/-- What Begin returns. -/
def begV (at_ lo hi ppb : Int) : Value := if kE at_ lo hi ppb 0 0 = 0 then .tuple #[.agg #[.int .i64 at_, .int .i64 lo, .int .i64 hi, .int .i64 ppb, .int .i64 0, .int .i64 0], .int .i64 0] else .tuple #[.agg #[.int .i64 0, .int .i64 0, .int .i64 0, .int .i64 0, .int .i64 0, .int .i64 0], .int .i64 (kE at_ lo hi ppb 0 0)]
theorem begV_ok {at_ lo hi ppb : Int} (h : kE at_ lo hi ppb 0 0 = 0) : begV at_ lo hi ppb = .tuple #[.agg #[.int .i64 at_, .int .i64 lo, .int .i64 hi, .int .i64 ppb, .int .i64 0, .int .i64 0], .int .i64 0] := by unfold begV; rw [if_pos h]
theorem begV_e {at_ lo hi ppb : Int} (h : kE at_ lo hi ppb 0 0 ≠ 0) : begV at_ lo hi ppb = .tuple #[.agg #[.int .i64 0, .int .i64 0, .int .i64 0, .int .i64 0, .int .i64 0, .int .i64 0], .int .i64 (kE at_ lo hi ppb 0 0)] := by unfold begV; rw [if_neg h]
end Go.Proofs.YtiinmhfolfgobaaGreatDoor
namespace Go.Proofs.YtiinmhfolfgobaaGreatDoor
open Go.RowKit

theorem badS_two (a b c d : Int) : badS [(a, b), (c, d)] = !(vS a b && vS c d) := by simp [badS, anyS]
theorem spansAt_two {w : World} {g : Nat} {a b c d : Int} {t : TypeId} (h : Blk w g t #[.int .i64 a, .int .i64 b, .int .i64 c, .int .i64 d]) : SpansAt w (some ⟨g, 0, none⟩) 2 [(a, b), (c, d)] := by
  refine ⟨rfl, by omega, fun _ => ⟨g, 0, rfl, h.lt, fun j hj => ?_⟩⟩
  obtain rfl | rfl : j = 0 ∨ j = 1 := by omega
  · exact ⟨by rw [h.cell]; rfl, by rw [h.cell]; rfl⟩
  · exact ⟨by rw [h.cell]; rfl, by rw [h.cell]; rfl⟩
/-- What stands beneath a call that only adds blocks. -/
theorem Blk.under {w w' : World} {g : Nat} {t : TypeId} {cs : Array Value} (h : Blk w g t cs) (hb : Below w.heap.size w w') : Blk w' g t cs := Blk.keep hb h

set_option maxHeartbeats 1000000 in
theorem iadd_f (P Q : Nat) (a b c d : Int) (h1 : vS a b = true) (h2 : vS c d = true) (w : World) (hp : Blk w P 40 #[.int .i64 a, .int .i64 b]) (hq : Blk w Q 40 #[.int .i64 c, .int .i64 d]) :
    Calls Tryz.prog 146 #[.pointer (some ⟨P, 0, none⟩), .pointer (some ⟨Q, 0, none⟩)] w (RB w (.agg #[.int .i64 (a + c), .int .i64 (b + d)])) := by
  obtain ⟨x1, x2, x3⟩ := vS_true.1 h1
  obtain ⟨y1, y2, y3⟩ := vS_true.1 h2
  clear h1 h2
  obtain ⟨cp, fp, lp, ep, kp⟩ := Blk.facts hp
  obtain ⟨cq, fq, lq, eq, kq⟩ := Blk.facts hq
  go_enter Tryz.func146, Tryz.ntmps146
  go_wp2
  exact bodyPost_ret (v := .agg #[.int .i64 (a + c), .int .i64 (b + d)]) (by simp [results, Tryz.results146, go_sem, *]) rfl ⟨rfl, by (repeat' (first | (with_reducible exact Below.refl _ _) | (with_reducible refine Below.setCell ?_ ?_ _) | (with_reducible refine Below.alloc ?_ ?_ _) | (with_reducible refine Below.drew ?_) | (with_reducible refine below_drewN ?_ _))) <;> (first | omega | (simp <;> omega))⟩
set_option maxHeartbeats 3000000 in
theorem iadd_all (a b c d : Int) (w : World) :
    Calls Tryz.prog 112 #[.agg #[.int .i64 a, .int .i64 b], .agg #[.int .i64 c, .int .i64 d]] w (RB w (opV (vS a b && vS c d) true (a + c) (b + d))) := by
  rcases h : vS a b && vS c d
  · rw [opV_3]
    have R := Lib.hid (fun f w g (q : Blk w g 40 #[.int .i64 a, .int .i64 b, .int .i64 c, .int .i64 d]) => result_bad f (some ⟨g, 0, none⟩) 2 2 [(a, b), (c, d)] (by rw [badS_two, h]; rfl) w (spansAt_two q))
    go_enter Tryz.func112, Tryz.ntmps112
    go_wp2_with fail
    refine (R.out _ _ _ (by (repeat' (first | ((with_reducible refine' Blk.newE ?_); first | rfl | (simp; done)) | (with_reducible refine' Blk.alloc ?_ _) | (with_reducible refine' Blk.drew ?_) | (with_reducible refine' Blk.drewN ?_ _) | (with_reducible refine' Blk.put ?_ ?_) | (with_reducible refine' Blk.far ?_ ?_ _) | exact rfl)) <;> (first | omega | (simp <;> omega)))).mono ?_
    rintro e w1 ⟨rfl, hb1⟩
    have K1 : Below w.heap.size w w1 := kept_call hb1 (by (repeat' (first | (with_reducible exact Below.refl _ _) | (with_reducible refine Below.setCell ?_ ?_ _) | (with_reducible refine Below.alloc ?_ ?_ _) | (with_reducible refine Below.drew ?_) | (with_reducible refine below_drewN ?_ _))) <;> (first | omega | (simp <;> omega)))
    have Z1 : w.heap.size ≤ w1.heap.size := K1.size
    have b1_2 := Blk.keep (g := w.heap.size + 2) hb1 (by (repeat' (first | ((with_reducible refine' Blk.newE ?_); first | rfl | (simp; done)) | (with_reducible refine' Blk.alloc ?_ _) | (with_reducible refine' Blk.drew ?_) | (with_reducible refine' Blk.drewN ?_ _) | (with_reducible refine' Blk.put ?_ ?_) | (with_reducible refine' Blk.far ?_ ?_ _) | exact rfl)) <;> (first | omega | (simp <;> omega)))
    (try simp only [List.setIfInBounds_toArray, List.set_cons_zero, List.set_cons_succ] at b1_2)
    clear hb1
    obtain ⟨c1_2, f1_2, l1_2, e1_2, k1_2⟩ := Blk.facts b1_2
    go_wp2
    exact bodyPost_ret (v := .tuple #[.agg #[.int .i64 0, .int .i64 0], .int .i64 3]) (by simp [results, Tryz.results112, go_sem, *]) rfl ⟨rfl, by (repeat' (first | (with_reducible exact K1) | (with_reducible refine Below.setCell ?_ ?_ _) | (with_reducible refine Below.alloc ?_ ?_ _) | (with_reducible refine Below.drew ?_) | (with_reducible refine below_drewN ?_ _))) <;> (first | omega | (simp <;> omega))⟩
  · have hh := h
    rw [Bool.and_eq_true] at hh
    rw [opV_ok]
    obtain ⟨x, y, e, hv⟩ := mkS_form (a + c) (b + d)
    have R := Lib.hid (fun P Q w g (q : Blk w g 40 #[.int .i64 a, .int .i64 b, .int .i64 c, .int .i64 d]) (p : Blk w P 40 #[.int .i64 a, .int .i64 b]) (r : Blk w Q 40 #[.int .i64 c, .int .i64 d]) => result_ok 146 (enters_of Tryz.func146 (by kernel_rfl) rfl) #[.pointer (some ⟨P, 0, none⟩), .pointer (some ⟨Q, 0, none⟩)] (a + c) (b + d) (some ⟨g, 0, none⟩) 2 2 [(a, b), (c, d)] (by rw [badS_two, h]; rfl) w (spansAt_two q) (fun w' hb => iadd_f P Q a b c d hh.1 hh.2 w' (Blk.keep hb p) (Blk.keep hb r)))
    rw [hv] at R ⊢
    clear hv h hh
    go_enter Tryz.func112, Tryz.ntmps112
    go_wp2_with fail
    refine (R.out _ _ _ _ (by (repeat' (first | ((with_reducible refine' Blk.newE ?_); first | rfl | (simp; done)) | (with_reducible refine' Blk.alloc ?_ _) | (with_reducible refine' Blk.drew ?_) | (with_reducible refine' Blk.drewN ?_ _) | (with_reducible refine' Blk.put ?_ ?_) | (with_reducible refine' Blk.far ?_ ?_ _) | exact rfl)) <;> (first | omega | (simp <;> omega))) (by (repeat' (first | ((with_reducible refine' Blk.newE ?_); first | rfl | (simp; done)) | (with_reducible refine' Blk.alloc ?_ _) | (with_reducible refine' Blk.drew ?_) | (with_reducible refine' Blk.drewN ?_ _) | (with_reducible refine' Blk.put ?_ ?_) | (with_reducible refine' Blk.far ?_ ?_ _) | exact rfl)) <;> (first | omega | (simp <;> omega))) (by (repeat' (first | ((with_reducible refine' Blk.newE ?_); first | rfl | (simp; done)) | (with_reducible refine' Blk.alloc ?_ _) | (with_reducible refine' Blk.drew ?_) | (with_reducible refine' Blk.drewN ?_ _) | (with_reducible refine' Blk.put ?_ ?_) | (with_reducible refine' Blk.far ?_ ?_ _) | exact rfl)) <;> (first | omega | (simp <;> omega)))).mono ?_
    rintro e w1 ⟨rfl, hb1⟩
    have K1 : Below w.heap.size w w1 := kept_call hb1 (by (repeat' (first | (with_reducible exact Below.refl _ _) | (with_reducible refine Below.setCell ?_ ?_ _) | (with_reducible refine Below.alloc ?_ ?_ _) | (with_reducible refine Below.drew ?_) | (with_reducible refine below_drewN ?_ _))) <;> (first | omega | (simp <;> omega)))
    have Z1 : w.heap.size ≤ w1.heap.size := K1.size
    have b1_2 := Blk.keep (g := w.heap.size + 2) hb1 (by (repeat' (first | ((with_reducible refine' Blk.newE ?_); first | rfl | (simp; done)) | (with_reducible refine' Blk.alloc ?_ _) | (with_reducible refine' Blk.drew ?_) | (with_reducible refine' Blk.drewN ?_ _) | (with_reducible refine' Blk.put ?_ ?_) | (with_reducible refine' Blk.far ?_ ?_ _) | exact rfl)) <;> (first | omega | (simp <;> omega)))
    (try simp only [List.setIfInBounds_toArray, List.set_cons_zero, List.set_cons_succ] at b1_2)
    clear hb1
    obtain ⟨c1_2, f1_2, l1_2, e1_2, k1_2⟩ := Blk.facts b1_2
    go_wp2
    exact bodyPost_ret (v := .tuple #[.agg #[.int .i64 x, .int .i64 y], .int .i64 e]) (by simp [results, Tryz.results112, go_sem, *]) rfl ⟨rfl, by (repeat' (first | (with_reducible exact K1) | (with_reducible refine Below.setCell ?_ ?_ _) | (with_reducible refine Below.alloc ?_ ?_ _) | (with_reducible refine Below.drew ?_) | (with_reducible refine below_drewN ?_ _))) <;> (first | omega | (simp <;> omega))⟩
end Go.Proofs.YtiinmhfolfgobaaGreatDoor
namespace Go.Proofs.YtiinmhfolfgobaaGreatDoor
open Go.RowKit

set_option maxHeartbeats 1000000 in
theorem dmoved_3 (a b t p : Int) (f : Value) (h : vS a b = false) (w : World) :
    Calls Tryz.prog 110 #[.agg #[.int .i64 a, .int .i64 b], .int .i64 t, .int .i64 p, f] w (RB w (.tuple #[.agg #[.int .i64 0, .int .i64 0], .int .i64 3])) := by
  go_enter Tryz.func110, Tryz.ntmps110
  go_wp2_with fail
  refine (svalid_any _ _ _).mono ?_
  rintro e wq1 ⟨rfl, rfl⟩
  rw [h]
  go_wp2
  exact bodyPost_ret (v := .tuple #[.agg #[.int .i64 0, .int .i64 0], .int .i64 3]) (by simp [results, Tryz.results110, go_sem, *]) rfl ⟨rfl, by (repeat' (first | (with_reducible exact Below.refl _ _) | (with_reducible refine Below.setCell ?_ ?_ _) | (with_reducible refine Below.alloc ?_ ?_ _) | (with_reducible refine Below.drew ?_) | (with_reducible refine below_drewN ?_ _))) <;> (first | omega | (simp <;> omega))⟩
set_option maxHeartbeats 1000000 in
theorem dmoved_4 (a b t p : Int) (f : Value) (h : vS a b = true) (h' : inD t p = false) (w : World) :
    Calls Tryz.prog 110 #[.agg #[.int .i64 a, .int .i64 b], .int .i64 t, .int .i64 p, f] w (RB w (.tuple #[.agg #[.int .i64 0, .int .i64 0], .int .i64 4])) := by
  have r := elapsed_any t p
  rw [outV_no h'] at r
  have R := Lib.hid r; clear r
  go_enter Tryz.func110, Tryz.ntmps110
  go_wp2_with fail
  refine (svalid_any _ _ _).mono ?_
  rintro e wq1 ⟨rfl, rfl⟩
  rw [h]
  go_wp2_with fail
  refine (R.out _).mono ?_
  rintro e w1 ⟨rfl, hb1⟩
  have K1 : Below w.heap.size w w1 := kept_call hb1 (by (repeat' (first | (with_reducible exact Below.refl _ _) | (with_reducible refine Below.setCell ?_ ?_ _) | (with_reducible refine Below.alloc ?_ ?_ _) | (with_reducible refine Below.drew ?_) | (with_reducible refine below_drewN ?_ _))) <;> (first | omega | (simp <;> omega)))
  have Z1 : w.heap.size ≤ w1.heap.size := K1.size
  have b1_1 := Blk.keep (g := w.heap.size + 1) hb1 (by (repeat' (first | ((with_reducible refine' Blk.newE ?_); first | rfl | (simp; done)) | (with_reducible refine' Blk.alloc ?_ _) | (with_reducible refine' Blk.drew ?_) | (with_reducible refine' Blk.drewN ?_ _) | (with_reducible refine' Blk.put ?_ ?_) | (with_reducible refine' Blk.far ?_ ?_ _) | exact rfl)) <;> (first | omega | (simp <;> omega)))
  (try simp only [List.setIfInBounds_toArray, List.set_cons_zero, List.set_cons_succ] at b1_1)
  clear hb1
  obtain ⟨c1_1, f1_1, l1_1, e1_1, k1_1⟩ := Blk.facts b1_1
  go_wp2
  exact bodyPost_ret (v := .tuple #[.agg #[.int .i64 0, .int .i64 0], .int .i64 4]) (by simp [results, Tryz.results110, go_sem, *]) rfl ⟨rfl, by (repeat' (first | (with_reducible exact K1) | (with_reducible refine Below.setCell ?_ ?_ _) | (with_reducible refine Below.alloc ?_ ?_ _) | (with_reducible refine Below.drew ?_) | (with_reducible refine below_drewN ?_ _))) <;> (first | omega | (simp <;> omega))⟩
set_option maxRecDepth 100000 in
set_option maxHeartbeats 2000000 in
theorem dmoved_ok (a b t p : Int) (k : FuncId) (ek : ∀ args w, (callFunc k args).run Tryz.prog w = .ok (.enter k args) w) (P : Nat) (x y e : Int) (h : vS a b = true) (h' : inD t p = true) (w : World) (hk : ∀ w', Below w.heap.size w w' → Calls Tryz.prog k #[.agg #[.int .i64 (elLo t p), .int .i64 (elHi t p)], .pointer (some ⟨P, 0, none⟩)] w' (RB w' (.tuple #[.agg #[.int .i64 x, .int .i64 y], .int .i64 e]))) :
    Calls Tryz.prog 110 #[.agg #[.int .i64 a, .int .i64 b], .int .i64 t, .int .i64 p, .func (.func k) #[] #[.pointer (some ⟨P, 0, none⟩)]] w (RB w (.tuple #[.agg #[.int .i64 x, .int .i64 y], .int .i64 e])) := by
  have r := elapsed_any t p
  rw [outV_ok h'] at r
  have R := Lib.hid r; clear r
  have HK := Lib.hid hk; clear hk
  generalize elLo t p = lo at *
  generalize elHi t p = hi at *
  have H := Lib.hid h; clear h
  go_enter Tryz.func110, Tryz.ntmps110
  go_wp2_with fail
  refine (svalid_any _ _ _).mono ?_
  rintro e wq1 ⟨rfl, rfl⟩
  rw [H.out]
  go_wp2_with fail
  refine (R.out _).mono ?_
  rintro e w1 ⟨rfl, hb1⟩
  have K1 : Below w.heap.size w w1 := kept_call hb1 (by (repeat' (first | (with_reducible exact Below.refl _ _) | (with_reducible refine Below.setCell ?_ ?_ _) | (with_reducible refine Below.alloc ?_ ?_ _) | (with_reducible refine Below.drew ?_) | (with_reducible refine below_drewN ?_ _))) <;> (first | omega | (simp <;> omega)))
  have Z1 : w.heap.size ≤ w1.heap.size := K1.size
  have b1_0 := Blk.keep (g := w.heap.size) hb1 (by (repeat' (first | ((with_reducible refine' Blk.newE ?_); first | rfl | (simp; done)) | (with_reducible refine' Blk.alloc ?_ _) | (with_reducible refine' Blk.drew ?_) | (with_reducible refine' Blk.drewN ?_ _) | (with_reducible refine' Blk.put ?_ ?_) | (with_reducible refine' Blk.far ?_ ?_ _) | exact rfl)) <;> (first | omega | (simp <;> omega)))
  (try simp only [List.setIfInBounds_toArray, List.set_cons_zero, List.set_cons_succ] at b1_0)
  have b1_1 := Blk.keep (g := w.heap.size + 1) hb1 (by (repeat' (first | ((with_reducible refine' Blk.newE ?_); first | rfl | (simp; done)) | (with_reducible refine' Blk.alloc ?_ _) | (with_reducible refine' Blk.drew ?_) | (with_reducible refine' Blk.drewN ?_ _) | (with_reducible refine' Blk.put ?_ ?_) | (with_reducible refine' Blk.far ?_ ?_ _) | exact rfl)) <;> (first | omega | (simp <;> omega)))
  (try simp only [List.setIfInBounds_toArray, List.set_cons_zero, List.set_cons_succ] at b1_1)
  clear hb1
  obtain ⟨c1_0, f1_0, l1_0, e1_0, k1_0⟩ := Blk.facts b1_0
  obtain ⟨c1_1, f1_1, l1_1, e1_1, k1_1⟩ := Blk.facts b1_1
  go_wp2_with fail
  refine (HK.out _ (by (repeat' (first | (with_reducible exact K1) | (with_reducible refine Below.setCell ?_ ?_ _) | (with_reducible refine Below.alloc ?_ ?_ _) | (with_reducible refine Below.drew ?_) | (with_reducible refine below_drewN ?_ _))) <;> (first | omega | (simp <;> omega)))).mono ?_
  rintro e w2 ⟨rfl, hb2⟩
  have K2 : Below w.heap.size w w2 := kept_call hb2 (by (repeat' (first | (with_reducible exact K1) | (with_reducible refine Below.setCell ?_ ?_ _) | (with_reducible refine Below.alloc ?_ ?_ _) | (with_reducible refine Below.drew ?_) | (with_reducible refine below_drewN ?_ _))) <;> (first | omega | (simp <;> omega)))
  have Z2 : w.heap.size ≤ w2.heap.size := K2.size
  have b1_0' := Blk.keep (g := w.heap.size) hb2 (by (repeat' (first | (with_reducible refine' Blk.alloc ?_ _) | (with_reducible refine' Blk.drew ?_) | (with_reducible refine' Blk.drewN ?_ _) | (with_reducible refine' Blk.put ?_ ?_) | (with_reducible refine' Blk.far ?_ ?_ _) | exact b1_0 | exact rfl)) <;> (first | omega | (simp <;> omega)))
  (try simp only [List.setIfInBounds_toArray, List.set_cons_zero, List.set_cons_succ] at b1_0')
  have b1_1' := Blk.keep (g := w.heap.size + 1) hb2 (by (repeat' (first | (with_reducible refine' Blk.alloc ?_ _) | (with_reducible refine' Blk.drew ?_) | (with_reducible refine' Blk.drewN ?_ _) | (with_reducible refine' Blk.put ?_ ?_) | (with_reducible refine' Blk.far ?_ ?_ _) | exact b1_1 | exact rfl)) <;> (first | omega | (simp <;> omega)))
  (try simp only [List.setIfInBounds_toArray, List.set_cons_zero, List.set_cons_succ] at b1_1')
  have b2_0 := Blk.keep (g := w1.heap.size) hb2 (by (repeat' (first | ((with_reducible refine' Blk.newE ?_); first | rfl | (simp; done)) | (with_reducible refine' Blk.alloc ?_ _) | (with_reducible refine' Blk.drew ?_) | (with_reducible refine' Blk.drewN ?_ _) | (with_reducible refine' Blk.put ?_ ?_) | (with_reducible refine' Blk.far ?_ ?_ _) | exact rfl)) <;> (first | omega | (simp <;> omega)))
  (try simp only [List.setIfInBounds_toArray, List.set_cons_zero, List.set_cons_succ] at b2_0)
  clear hb2 K1
  clear b1_0 c1_0 f1_0 l1_0 e1_0 k1_0; have b1_0 := b1_0'; clear b1_0'
  clear b1_1 c1_1 f1_1 l1_1 e1_1 k1_1; have b1_1 := b1_1'; clear b1_1'
  obtain ⟨c1_0, f1_0, l1_0, e1_0, k1_0⟩ := Blk.facts b1_0
  obtain ⟨c1_1, f1_1, l1_1, e1_1, k1_1⟩ := Blk.facts b1_1
  obtain ⟨c2_0, f2_0, l2_0, e2_0, k2_0⟩ := Blk.facts b2_0
  go_wp2
  exact bodyPost_ret (v := .tuple #[.agg #[.int .i64 x, .int .i64 y], .int .i64 _]) (by simp [results, Tryz.results110, go_sem, *]) rfl ⟨rfl, by (repeat' (first | (with_reducible exact K2) | (with_reducible refine Below.setCell ?_ ?_ _) | (with_reducible refine Below.alloc ?_ ?_ _) | (with_reducible refine Below.drew ?_) | (with_reducible refine below_drewN ?_ _))) <;> (first | omega | (simp <;> omega))⟩
set_option maxHeartbeats 2000000 in
theorem dproj_f (P : Nat) (a b c d : Int) (w : World) (hp : Blk w P 40 #[.int .i64 a, .int .i64 b]) :
    Calls Tryz.prog 111 #[.agg #[.int .i64 c, .int .i64 d], .pointer (some ⟨P, 0, none⟩)] w (RB w (opV (vS a b && vS c d) true (a + c) (b + d))) := by
  have r := iadd_all a b c d
  obtain ⟨x, y, e, hv⟩ := opV_form (vS a b && vS c d) true (a + c) (b + d)
  rw [hv] at r ⊢
  have R := Lib.hid r; clear r hv
  obtain ⟨cp, fp, lp, ep, kp⟩ := Blk.facts hp
  go_enter Tryz.func111, Tryz.ntmps111
  go_wp2_with fail
  refine (R.out _).mono ?_
  rintro e w1 ⟨rfl, hb1⟩
  have K1 : Below w.heap.size w w1 := kept_call hb1 (by (repeat' (first | (with_reducible exact Below.refl _ _) | (with_reducible refine Below.setCell ?_ ?_ _) | (with_reducible refine Below.alloc ?_ ?_ _) | (with_reducible refine Below.drew ?_) | (with_reducible refine below_drewN ?_ _))) <;> (first | omega | (simp <;> omega)))
  have Z1 : w.heap.size ≤ w1.heap.size := K1.size
  have b1_1 := Blk.keep (g := w.heap.size + 1) hb1 (by (repeat' (first | ((with_reducible refine' Blk.newE ?_); first | rfl | (simp; done)) | (with_reducible refine' Blk.alloc ?_ _) | (with_reducible refine' Blk.drew ?_) | (with_reducible refine' Blk.drewN ?_ _) | (with_reducible refine' Blk.put ?_ ?_) | (with_reducible refine' Blk.far ?_ ?_ _) | exact rfl)) <;> (first | omega | (simp <;> omega)))
  (try simp only [List.setIfInBounds_toArray, List.set_cons_zero, List.set_cons_succ] at b1_1)
  clear hb1
  obtain ⟨c1_1, f1_1, l1_1, e1_1, k1_1⟩ := Blk.facts b1_1
  go_wp2
  exact bodyPost_ret (v := .tuple #[.agg #[.int .i64 x, .int .i64 y], .int .i64 _]) (by simp [results, Tryz.results111, go_sem, *]) rfl ⟨rfl, by (repeat' (first | (with_reducible exact K1) | (with_reducible refine Below.setCell ?_ ?_ _) | (with_reducible refine Below.alloc ?_ ?_ _) | (with_reducible refine Below.drew ?_) | (with_reducible refine below_drewN ?_ _))) <;> (first | omega | (simp <;> omega))⟩
set_option maxHeartbeats 3000000 in
theorem dproj_op (a b t p : Int) (w : World) :
    Calls Tryz.prog 73 #[.agg #[.int .i64 a, .int .i64 b], .int .i64 t, .int .i64 p] w (RB w (opV (vS a b) (inD t p) (a + elLo t p) (b + elHi t p))) := by
  rcases h : vS a b
  · rw [opV_3]
    have R := Lib.hid (fun f w => dmoved_3 a b t p f h w)
    go_enter Tryz.func73, Tryz.ntmps73
    go_wp2_with fail
    refine (R.out _ _).mono ?_
    rintro e w1 ⟨rfl, hb1⟩
    have K1 : Below w.heap.size w w1 := kept_call hb1 (by (repeat' (first | (with_reducible exact Below.refl _ _) | (with_reducible refine Below.setCell ?_ ?_ _) | (with_reducible refine Below.alloc ?_ ?_ _) | (with_reducible refine Below.drew ?_) | (with_reducible refine below_drewN ?_ _))) <;> (first | omega | (simp <;> omega)))
    have Z1 : w.heap.size ≤ w1.heap.size := K1.size
    have b1_1 := Blk.keep (g := w.heap.size + 1) hb1 (by (repeat' (first | ((with_reducible refine' Blk.newE ?_); first | rfl | (simp; done)) | (with_reducible refine' Blk.alloc ?_ _) | (with_reducible refine' Blk.drew ?_) | (with_reducible refine' Blk.drewN ?_ _) | (with_reducible refine' Blk.put ?_ ?_) | (with_reducible refine' Blk.far ?_ ?_ _) | exact rfl)) <;> (first | omega | (simp <;> omega)))
    (try simp only [List.setIfInBounds_toArray, List.set_cons_zero, List.set_cons_succ] at b1_1)
    clear hb1
    obtain ⟨c1_1, f1_1, l1_1, e1_1, k1_1⟩ := Blk.facts b1_1
    go_wp2
    exact bodyPost_ret (v := .tuple #[.agg #[.int .i64 0, .int .i64 0], .int .i64 3]) (by simp [results, Tryz.results73, go_sem, *]) rfl ⟨rfl, by (repeat' (first | (with_reducible exact K1) | (with_reducible refine Below.setCell ?_ ?_ _) | (with_reducible refine Below.alloc ?_ ?_ _) | (with_reducible refine Below.drew ?_) | (with_reducible refine below_drewN ?_ _))) <;> (first | omega | (simp <;> omega))⟩
  rcases h' : inD t p
  · rw [opV_4]
    have R := Lib.hid (fun f w => dmoved_4 a b t p f h h' w)
    go_enter Tryz.func73, Tryz.ntmps73
    go_wp2_with fail
    refine (R.out _ _).mono ?_
    rintro e w1 ⟨rfl, hb1⟩
    have K1 : Below w.heap.size w w1 := kept_call hb1 (by (repeat' (first | (with_reducible exact Below.refl _ _) | (with_reducible refine Below.setCell ?_ ?_ _) | (with_reducible refine Below.alloc ?_ ?_ _) | (with_reducible refine Below.drew ?_) | (with_reducible refine below_drewN ?_ _))) <;> (first | omega | (simp <;> omega)))
    have Z1 : w.heap.size ≤ w1.heap.size := K1.size
    have b1_1 := Blk.keep (g := w.heap.size + 1) hb1 (by (repeat' (first | ((with_reducible refine' Blk.newE ?_); first | rfl | (simp; done)) | (with_reducible refine' Blk.alloc ?_ _) | (with_reducible refine' Blk.drew ?_) | (with_reducible refine' Blk.drewN ?_ _) | (with_reducible refine' Blk.put ?_ ?_) | (with_reducible refine' Blk.far ?_ ?_ _) | exact rfl)) <;> (first | omega | (simp <;> omega)))
    (try simp only [List.setIfInBounds_toArray, List.set_cons_zero, List.set_cons_succ] at b1_1)
    clear hb1
    obtain ⟨c1_1, f1_1, l1_1, e1_1, k1_1⟩ := Blk.facts b1_1
    go_wp2
    exact bodyPost_ret (v := .tuple #[.agg #[.int .i64 0, .int .i64 0], .int .i64 4]) (by simp [results, Tryz.results73, go_sem, *]) rfl ⟨rfl, by (repeat' (first | (with_reducible exact K1) | (with_reducible refine Below.setCell ?_ ?_ _) | (with_reducible refine Below.alloc ?_ ?_ _) | (with_reducible refine Below.drew ?_) | (with_reducible refine below_drewN ?_ _))) <;> (first | omega | (simp <;> omega))⟩
  · rw [opV_ok]
    obtain ⟨d0, d1, p0, p1⟩ := inD_true.1 h'
    have hs := el_span d0 p0 p1 d1
    obtain ⟨x, y, e, hv⟩ := mkS_form (a + elLo t p) (b + elHi t p)
    have q := fun P w hp => dproj_f P a b (elLo t p) (elHi t p) w hp
    rw [h, hs, show (true && true) = true from rfl, opV_ok, hv] at q
    have R := Lib.hid (fun P w hp => dmoved_ok a b t p 111 (enters_of Tryz.func111 (by kernel_rfl) rfl) P x y e h h' w (fun w' hb => q P w' (Blk.keep hb hp)))
    rw [hv]
    clear hv q h h' hs d0 d1 p0 p1
    go_enter Tryz.func73, Tryz.ntmps73
    go_wp2_with fail
    refine (R.out _ _ (by (repeat' (first | ((with_reducible refine' Blk.newE ?_); first | rfl | (simp; done)) | (with_reducible refine' Blk.alloc ?_ _) | (with_reducible refine' Blk.drew ?_) | (with_reducible refine' Blk.drewN ?_ _) | (with_reducible refine' Blk.put ?_ ?_) | (with_reducible refine' Blk.far ?_ ?_ _) | exact rfl)) <;> (first | omega | (simp <;> omega)))).mono ?_
    rintro e w1 ⟨rfl, hb1⟩
    have K1 : Below w.heap.size w w1 := kept_call hb1 (by (repeat' (first | (with_reducible exact Below.refl _ _) | (with_reducible refine Below.setCell ?_ ?_ _) | (with_reducible refine Below.alloc ?_ ?_ _) | (with_reducible refine Below.drew ?_) | (with_reducible refine below_drewN ?_ _))) <;> (first | omega | (simp <;> omega)))
    have Z1 : w.heap.size ≤ w1.heap.size := K1.size
    have b1_1 := Blk.keep (g := w.heap.size + 1) hb1 (by (repeat' (first | ((with_reducible refine' Blk.newE ?_); first | rfl | (simp; done)) | (with_reducible refine' Blk.alloc ?_ _) | (with_reducible refine' Blk.drew ?_) | (with_reducible refine' Blk.drewN ?_ _) | (with_reducible refine' Blk.put ?_ ?_) | (with_reducible refine' Blk.far ?_ ?_ _) | exact rfl)) <;> (first | omega | (simp <;> omega)))
    (try simp only [List.setIfInBounds_toArray, List.set_cons_zero, List.set_cons_succ] at b1_1)
    clear hb1
    obtain ⟨c1_1, f1_1, l1_1, e1_1, k1_1⟩ := Blk.facts b1_1
    go_wp2
    exact bodyPost_ret (v := .tuple #[.agg #[.int .i64 x, .int .i64 y], .int .i64 _]) (by simp [results, Tryz.results73, go_sem, *]) rfl ⟨rfl, by (repeat' (first | (with_reducible exact K1) | (with_reducible refine Below.setCell ?_ ?_ _) | (with_reducible refine Below.alloc ?_ ?_ _) | (with_reducible refine Below.drew ?_) | (with_reducible refine below_drewN ?_ _))) <;> (first | omega | (simp <;> omega))⟩
end Go.Proofs.YtiinmhfolfgobaaGreatDoor
