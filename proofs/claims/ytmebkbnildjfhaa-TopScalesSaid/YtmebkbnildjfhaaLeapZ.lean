/- The reference's UTC. -/
import Derived.Test.YtmebkbnildjfhaaLeapX
import Derived.Test.YtmebkbnildjfhaaLeapUV
import Derived.Deep.DeepCutAuto
import Derived.Deep.LoopGhost
namespace Go.Proofs.Ytmebkbnildjfhaa
open Go.RowKit
set_option linter.unusedSimpArgs false
set_option linter.unusedVariables false

/-- What the reference's TAI says of a reading. -/
def taiV (first : Int) (zs : List (Int × Int)) (c : Int) (l : Bool) (p : Int) : Int × Int := if inS c then (if (l = true ∧ stepL first zs c ≠ 1) ∨ stepL first zs c = -1 then (0, 10) else ((c + offL first zs c + (if l then 1 else 0)) * 1048576 + p, 0)) else (0, 4)
theorem taiV_hit {first : Int} {zs : List (Int × Int)} {c tt : Int} {l : Bool} : ((taiV first zs c l (tt % 1048576)).2 = 0 ∧ (taiV first zs c l (tt % 1048576)).1 = tt) ↔ taiB first zs (tt / 1048576) c l = true := by
  rw [taiB_true]
  unfold taiV taiP
  cases hc : inS c with
  | false => simp
  | true =>
    simp only [if_true, true_and]
    by_cases hs : (l = true ∧ stepL first zs c ≠ 1) ∨ stepL first zs c = -1
    · rw [if_pos hs]
      constructor
      · intro h; simp at h
      · rintro ⟨h1, h2, h3⟩
        rcases hs with ⟨a, b⟩ | a
        · exact absurd (h1 a) b
        · exact absurd a h2
    · rw [if_neg hs]
      generalize c + offL first zs c + (if l = true then (1 : Int) else 0) = x
      constructor
      · rintro ⟨-, h⟩
        exact ⟨fun hl => Classical.byContradiction fun hn => hs (.inl ⟨hl, hn⟩), fun hn => hs (.inr hn), by simp only at h; omega⟩
      · rintro ⟨-, -, h⟩
        exact ⟨rfl, by simp only; omega⟩
set_option maxRecDepth 100000 in
set_option maxHeartbeats 2000000 in
theorem rtai_any (first : Int) (A : Option Addr) (len cap : Nat) (zs : List (Int × Int)) (c p : Int) (l : Bool) (hv : LVal first zs) (c0 : -1000 ≤ c) (c1 : c ≤ 1099511627776) (p0 : 0 ≤ p) (p1 : p < 1048576) (w : World) (h : PrAt w A len zs) (hz : ∀ z ∈ zs, IntIn z.1 ∧ IntIn z.2) :
    Calls Try.prog 101 #[.agg #[.int .i64 first, .slice A len cap], .agg #[.int .i64 c, .bool l, .int .i64 p]] w (RB w (.tuple #[.int .i64 (taiV first zs c l p).1, .int .i64 (taiV first zs c l p).2])) := by
  have RV := Lib.hid (fun W (hW : Below w.heap.size w W) => bool_of (lvB_true.2 hv) (rlvalid_any first A len cap zs W (h.below hW) hz))
  have RO := Lib.hid (fun W (hW : Below w.heap.size w W) => roffset_any first A len cap zs hv c W (h.below hW))
  have RS := Lib.hid (fun W (hW : Below w.heap.size w W) => rstep_any first A len cap zs hv c (by omega) (by omega) W (h.below hW))
  have RI := Lib.hid (fun W => rleapin_any c W)
  have ob := offL_in hv c
  have sb := stepL_range hv c
  clear h hz hv
  have g1 : decide (p < 0) = false := decide_eq_false (by omega)
  have g2 : decide (1048576 ≤ p) = false := decide_eq_false (by omega)
  unfold taiV
  generalize offL first zs c = ov at *
  generalize stepL first zs c = sv at *
  cases hc : inS c with
  | false =>
    rw [hc] at RI
    rw [if_neg (by simp)]
    go_enter Try.func101, Try.ntmps101
    go_wp2_with fail
    refine (RV.out _ (by (repeat' (first | (with_reducible exact Below.refl _ _) | (with_reducible refine Below.setCell ?_ ?_ _) | (with_reducible refine Below.alloc ?_ ?_ _) | (with_reducible refine Below.drew ?_) | (with_reducible refine below_drewN ?_ _))) <;> (first | omega | (simp <;> omega)))).mono ?_
    rintro e w1 ⟨rfl, hb1⟩
    have K1 : Below w.heap.size w w1 := kept_call hb1 (by (repeat' (first | (with_reducible exact Below.refl _ _) | (with_reducible refine Below.setCell ?_ ?_ _) | (with_reducible refine Below.alloc ?_ ?_ _) | (with_reducible refine Below.drew ?_) | (with_reducible refine below_drewN ?_ _))) <;> (first | omega | (simp <;> omega)))
    have Z1 : w.heap.size ≤ w1.heap.size := K1.size
    have b1_0 := Blk.keep (g := w.heap.size) hb1 (by (repeat' (first | ((with_reducible refine' Blk.newE ?_); first | rfl | (simp; done)) | (with_reducible refine' Blk.alloc ?_ _) | (with_reducible refine' Blk.drew ?_) | (with_reducible refine' Blk.drewN ?_ _) | (with_reducible refine' Blk.put ?_ ?_) | (with_reducible refine' Blk.far ?_ ?_ _) | exact rfl)) <;> (first | omega | (simp <;> omega)))
    (try simp only [List.setIfInBounds_toArray, List.set_cons_zero, List.set_cons_succ] at b1_0)
    have b1_1 := Blk.keep (g := w.heap.size + 1) hb1 (by (repeat' (first | ((with_reducible refine' Blk.newE ?_); first | rfl | (simp; done)) | (with_reducible refine' Blk.alloc ?_ _) | (with_reducible refine' Blk.drew ?_) | (with_reducible refine' Blk.drewN ?_ _) | (with_reducible refine' Blk.put ?_ ?_) | (with_reducible refine' Blk.far ?_ ?_ _) | exact rfl)) <;> (first | omega | (simp <;> omega)))
    (try simp only [List.setIfInBounds_toArray, List.set_cons_zero, List.set_cons_succ] at b1_1)
    clear hb1
    obtain ⟨c1_0, f1_0, l1_0, e1_0, k1_0⟩ := Blk.facts b1_0
    obtain ⟨c1_1, f1_1, l1_1, e1_1, k1_1⟩ := Blk.facts b1_1
    have o1_0 := l1_0
    have o1_1 := l1_1
    go_wp2_with fail
    refine (RI.out _).mono ?_
    rintro e w2 ⟨rfl, hb2⟩
    have K2 : Below w.heap.size w w2 := kept_call hb2 (by (repeat' (first | (with_reducible exact K1) | (with_reducible refine Below.setCell ?_ ?_ _) | (with_reducible refine Below.alloc ?_ ?_ _) | (with_reducible refine Below.drew ?_) | (with_reducible refine below_drewN ?_ _))) <;> (first | omega | (simp <;> omega)))
    have Z2 : w.heap.size ≤ w2.heap.size := K2.size
    have b1_0' := Blk.keep (g := w.heap.size) hb2 (by (repeat' (first | (with_reducible refine' Blk.alloc ?_ _) | (with_reducible refine' Blk.drew ?_) | (with_reducible refine' Blk.drewN ?_ _) | (with_reducible refine' Blk.put ?_ ?_) | (with_reducible refine' Blk.far ?_ ?_ _) | exact b1_0 | exact rfl)) <;> (first | omega | (simp <;> omega)))
    (try simp only [List.setIfInBounds_toArray, List.set_cons_zero, List.set_cons_succ] at b1_0')
    have b1_1' := Blk.keep (g := w.heap.size + 1) hb2 (by (repeat' (first | (with_reducible refine' Blk.alloc ?_ _) | (with_reducible refine' Blk.drew ?_) | (with_reducible refine' Blk.drewN ?_ _) | (with_reducible refine' Blk.put ?_ ?_) | (with_reducible refine' Blk.far ?_ ?_ _) | exact b1_1 | exact rfl)) <;> (first | omega | (simp <;> omega)))
    (try simp only [List.setIfInBounds_toArray, List.set_cons_zero, List.set_cons_succ] at b1_1')
    clear hb2 K1
    clear b1_0 c1_0 f1_0 l1_0 e1_0 k1_0; have b1_0 := b1_0'; clear b1_0'
    clear b1_1 c1_1 f1_1 l1_1 e1_1 k1_1; have b1_1 := b1_1'; clear b1_1'
    obtain ⟨c1_0, f1_0, l1_0, e1_0, k1_0⟩ := Blk.facts b1_0
    obtain ⟨c1_1, f1_1, l1_1, e1_1, k1_1⟩ := Blk.facts b1_1
    go_wp2
    exact bodyPost_ret (v := .tuple #[.int .i64 0, .int .i64 4]) (by simp [results, Try.results101, go_sem, *]) rfl ⟨rfl, (by (repeat' (first | (with_reducible exact K2) | (with_reducible refine Below.setCell ?_ ?_ _) | (with_reducible refine Below.alloc ?_ ?_ _) | (with_reducible refine Below.drew ?_) | (with_reducible refine below_drewN ?_ _))) <;> (first | omega | (simp <;> omega)))⟩
  | true =>
    rw [hc] at RI
    rw [if_pos rfl]
    have wc : IntKind.i64.wrap (c + ov) = c + ov := IntWalk.i64_in _ (by omega)
    have wc1 : IntKind.i64.wrap (c + ov + 1) = c + ov + 1 := IntWalk.i64_in _ (by omega)
    have wc2 : IntKind.i64.wrap ((c + ov) * 1048576) = (c + ov) * 1048576 := IntWalk.i64_in _ (by omega)
    have wc3 : IntKind.i64.wrap ((c + ov + 1) * 1048576) = (c + ov + 1) * 1048576 := IntWalk.i64_in _ (by omega)
    have wc4 : IntKind.i64.wrap ((c + ov) * 1048576 + p) = (c + ov) * 1048576 + p := IntWalk.i64_in _ (by omega)
    have wc5 : IntKind.i64.wrap ((c + ov + 1) * 1048576 + p) = (c + ov + 1) * 1048576 + p := IntWalk.i64_in _ (by omega)
    cases l with
    | false =>
      by_cases k0 : sv = -1
      · subst k0
        rw [if_pos (.inr rfl)]
        go_enter Try.func101, Try.ntmps101
        go_wp2_with fail
        refine (RV.out _ (by (repeat' (first | (with_reducible exact Below.refl _ _) | (with_reducible refine Below.setCell ?_ ?_ _) | (with_reducible refine Below.alloc ?_ ?_ _) | (with_reducible refine Below.drew ?_) | (with_reducible refine below_drewN ?_ _))) <;> (first | omega | (simp <;> omega)))).mono ?_
        rintro e w1 ⟨rfl, hb1⟩
        have K1 : Below w.heap.size w w1 := kept_call hb1 (by (repeat' (first | (with_reducible exact Below.refl _ _) | (with_reducible refine Below.setCell ?_ ?_ _) | (with_reducible refine Below.alloc ?_ ?_ _) | (with_reducible refine Below.drew ?_) | (with_reducible refine below_drewN ?_ _))) <;> (first | omega | (simp <;> omega)))
        have Z1 : w.heap.size ≤ w1.heap.size := K1.size
        have b1_0 := Blk.keep (g := w.heap.size) hb1 (by (repeat' (first | ((with_reducible refine' Blk.newE ?_); first | rfl | (simp; done)) | (with_reducible refine' Blk.alloc ?_ _) | (with_reducible refine' Blk.drew ?_) | (with_reducible refine' Blk.drewN ?_ _) | (with_reducible refine' Blk.put ?_ ?_) | (with_reducible refine' Blk.far ?_ ?_ _) | exact rfl)) <;> (first | omega | (simp <;> omega)))
        (try simp only [List.setIfInBounds_toArray, List.set_cons_zero, List.set_cons_succ] at b1_0)
        have b1_1 := Blk.keep (g := w.heap.size + 1) hb1 (by (repeat' (first | ((with_reducible refine' Blk.newE ?_); first | rfl | (simp; done)) | (with_reducible refine' Blk.alloc ?_ _) | (with_reducible refine' Blk.drew ?_) | (with_reducible refine' Blk.drewN ?_ _) | (with_reducible refine' Blk.put ?_ ?_) | (with_reducible refine' Blk.far ?_ ?_ _) | exact rfl)) <;> (first | omega | (simp <;> omega)))
        (try simp only [List.setIfInBounds_toArray, List.set_cons_zero, List.set_cons_succ] at b1_1)
        clear hb1
        obtain ⟨c1_0, f1_0, l1_0, e1_0, k1_0⟩ := Blk.facts b1_0
        obtain ⟨c1_1, f1_1, l1_1, e1_1, k1_1⟩ := Blk.facts b1_1
        have o1_0 := l1_0
        have o1_1 := l1_1
        go_wp2_with fail
        refine (RI.out _).mono ?_
        rintro e w2 ⟨rfl, hb2⟩
        have K2 : Below w.heap.size w w2 := kept_call hb2 (by (repeat' (first | (with_reducible exact K1) | (with_reducible refine Below.setCell ?_ ?_ _) | (with_reducible refine Below.alloc ?_ ?_ _) | (with_reducible refine Below.drew ?_) | (with_reducible refine below_drewN ?_ _))) <;> (first | omega | (simp <;> omega)))
        have Z2 : w.heap.size ≤ w2.heap.size := K2.size
        have b1_0' := Blk.keep (g := w.heap.size) hb2 (by (repeat' (first | (with_reducible refine' Blk.alloc ?_ _) | (with_reducible refine' Blk.drew ?_) | (with_reducible refine' Blk.drewN ?_ _) | (with_reducible refine' Blk.put ?_ ?_) | (with_reducible refine' Blk.far ?_ ?_ _) | exact b1_0 | exact rfl)) <;> (first | omega | (simp <;> omega)))
        (try simp only [List.setIfInBounds_toArray, List.set_cons_zero, List.set_cons_succ] at b1_0')
        have b1_1' := Blk.keep (g := w.heap.size + 1) hb2 (by (repeat' (first | (with_reducible refine' Blk.alloc ?_ _) | (with_reducible refine' Blk.drew ?_) | (with_reducible refine' Blk.drewN ?_ _) | (with_reducible refine' Blk.put ?_ ?_) | (with_reducible refine' Blk.far ?_ ?_ _) | exact b1_1 | exact rfl)) <;> (first | omega | (simp <;> omega)))
        (try simp only [List.setIfInBounds_toArray, List.set_cons_zero, List.set_cons_succ] at b1_1')
        clear hb2 K1
        clear b1_0 c1_0 f1_0 l1_0 e1_0 k1_0; have b1_0 := b1_0'; clear b1_0'
        clear b1_1 c1_1 f1_1 l1_1 e1_1 k1_1; have b1_1 := b1_1'; clear b1_1'
        obtain ⟨c1_0, f1_0, l1_0, e1_0, k1_0⟩ := Blk.facts b1_0
        obtain ⟨c1_1, f1_1, l1_1, e1_1, k1_1⟩ := Blk.facts b1_1
        go_wp2_with fail
        refine (RS.out _ (by (repeat' (first | (with_reducible exact K2) | (with_reducible refine Below.setCell ?_ ?_ _) | (with_reducible refine Below.alloc ?_ ?_ _) | (with_reducible refine Below.drew ?_) | (with_reducible refine below_drewN ?_ _))) <;> (first | omega | (simp <;> omega)))).mono ?_
        rintro e w3 ⟨rfl, hb3⟩
        have K3 : Below w.heap.size w w3 := kept_call hb3 (by (repeat' (first | (with_reducible exact K2) | (with_reducible refine Below.setCell ?_ ?_ _) | (with_reducible refine Below.alloc ?_ ?_ _) | (with_reducible refine Below.drew ?_) | (with_reducible refine below_drewN ?_ _))) <;> (first | omega | (simp <;> omega)))
        have Z3 : w.heap.size ≤ w3.heap.size := K3.size
        have b1_0' := Blk.keep (g := w.heap.size) hb3 (by (repeat' (first | (with_reducible refine' Blk.alloc ?_ _) | (with_reducible refine' Blk.drew ?_) | (with_reducible refine' Blk.drewN ?_ _) | (with_reducible refine' Blk.put ?_ ?_) | (with_reducible refine' Blk.far ?_ ?_ _) | exact b1_0 | exact rfl)) <;> (first | omega | (simp <;> omega)))
        (try simp only [List.setIfInBounds_toArray, List.set_cons_zero, List.set_cons_succ] at b1_0')
        have b1_1' := Blk.keep (g := w.heap.size + 1) hb3 (by (repeat' (first | (with_reducible refine' Blk.alloc ?_ _) | (with_reducible refine' Blk.drew ?_) | (with_reducible refine' Blk.drewN ?_ _) | (with_reducible refine' Blk.put ?_ ?_) | (with_reducible refine' Blk.far ?_ ?_ _) | exact b1_1 | exact rfl)) <;> (first | omega | (simp <;> omega)))
        (try simp only [List.setIfInBounds_toArray, List.set_cons_zero, List.set_cons_succ] at b1_1')
        clear hb3 K2
        clear b1_0 c1_0 f1_0 l1_0 e1_0 k1_0; have b1_0 := b1_0'; clear b1_0'
        clear b1_1 c1_1 f1_1 l1_1 e1_1 k1_1; have b1_1 := b1_1'; clear b1_1'
        obtain ⟨c1_0, f1_0, l1_0, e1_0, k1_0⟩ := Blk.facts b1_0
        obtain ⟨c1_1, f1_1, l1_1, e1_1, k1_1⟩ := Blk.facts b1_1
        go_wp2
        exact bodyPost_ret (v := .tuple #[.int .i64 0, .int .i64 10]) (by simp [results, Try.results101, go_sem, *]) rfl ⟨rfl, (by (repeat' (first | (with_reducible exact K3) | (with_reducible refine Below.setCell ?_ ?_ _) | (with_reducible refine Below.alloc ?_ ?_ _) | (with_reducible refine Below.drew ?_) | (with_reducible refine below_drewN ?_ _))) <;> (first | omega | (simp <;> omega)))⟩
      · have g3 : decide (sv = -1) = false := decide_eq_false k0
        have g4 : (sv == -1) = false := by simp [k0]
        rw [if_neg (by simp [k0]), show (c + ov + (if false = true then (1 : Int) else 0)) * 1048576 + p = (c + ov) * 1048576 + p by simp]
        go_enter Try.func101, Try.ntmps101
        go_wp2_with fail
        refine (RV.out _ (by (repeat' (first | (with_reducible exact Below.refl _ _) | (with_reducible refine Below.setCell ?_ ?_ _) | (with_reducible refine Below.alloc ?_ ?_ _) | (with_reducible refine Below.drew ?_) | (with_reducible refine below_drewN ?_ _))) <;> (first | omega | (simp <;> omega)))).mono ?_
        rintro e w1 ⟨rfl, hb1⟩
        have K1 : Below w.heap.size w w1 := kept_call hb1 (by (repeat' (first | (with_reducible exact Below.refl _ _) | (with_reducible refine Below.setCell ?_ ?_ _) | (with_reducible refine Below.alloc ?_ ?_ _) | (with_reducible refine Below.drew ?_) | (with_reducible refine below_drewN ?_ _))) <;> (first | omega | (simp <;> omega)))
        have Z1 : w.heap.size ≤ w1.heap.size := K1.size
        have b1_0 := Blk.keep (g := w.heap.size) hb1 (by (repeat' (first | ((with_reducible refine' Blk.newE ?_); first | rfl | (simp; done)) | (with_reducible refine' Blk.alloc ?_ _) | (with_reducible refine' Blk.drew ?_) | (with_reducible refine' Blk.drewN ?_ _) | (with_reducible refine' Blk.put ?_ ?_) | (with_reducible refine' Blk.far ?_ ?_ _) | exact rfl)) <;> (first | omega | (simp <;> omega)))
        (try simp only [List.setIfInBounds_toArray, List.set_cons_zero, List.set_cons_succ] at b1_0)
        have b1_1 := Blk.keep (g := w.heap.size + 1) hb1 (by (repeat' (first | ((with_reducible refine' Blk.newE ?_); first | rfl | (simp; done)) | (with_reducible refine' Blk.alloc ?_ _) | (with_reducible refine' Blk.drew ?_) | (with_reducible refine' Blk.drewN ?_ _) | (with_reducible refine' Blk.put ?_ ?_) | (with_reducible refine' Blk.far ?_ ?_ _) | exact rfl)) <;> (first | omega | (simp <;> omega)))
        (try simp only [List.setIfInBounds_toArray, List.set_cons_zero, List.set_cons_succ] at b1_1)
        clear hb1
        obtain ⟨c1_0, f1_0, l1_0, e1_0, k1_0⟩ := Blk.facts b1_0
        obtain ⟨c1_1, f1_1, l1_1, e1_1, k1_1⟩ := Blk.facts b1_1
        have o1_0 := l1_0
        have o1_1 := l1_1
        go_wp2_with fail
        refine (RI.out _).mono ?_
        rintro e w2 ⟨rfl, hb2⟩
        have K2 : Below w.heap.size w w2 := kept_call hb2 (by (repeat' (first | (with_reducible exact K1) | (with_reducible refine Below.setCell ?_ ?_ _) | (with_reducible refine Below.alloc ?_ ?_ _) | (with_reducible refine Below.drew ?_) | (with_reducible refine below_drewN ?_ _))) <;> (first | omega | (simp <;> omega)))
        have Z2 : w.heap.size ≤ w2.heap.size := K2.size
        have b1_0' := Blk.keep (g := w.heap.size) hb2 (by (repeat' (first | (with_reducible refine' Blk.alloc ?_ _) | (with_reducible refine' Blk.drew ?_) | (with_reducible refine' Blk.drewN ?_ _) | (with_reducible refine' Blk.put ?_ ?_) | (with_reducible refine' Blk.far ?_ ?_ _) | exact b1_0 | exact rfl)) <;> (first | omega | (simp <;> omega)))
        (try simp only [List.setIfInBounds_toArray, List.set_cons_zero, List.set_cons_succ] at b1_0')
        have b1_1' := Blk.keep (g := w.heap.size + 1) hb2 (by (repeat' (first | (with_reducible refine' Blk.alloc ?_ _) | (with_reducible refine' Blk.drew ?_) | (with_reducible refine' Blk.drewN ?_ _) | (with_reducible refine' Blk.put ?_ ?_) | (with_reducible refine' Blk.far ?_ ?_ _) | exact b1_1 | exact rfl)) <;> (first | omega | (simp <;> omega)))
        (try simp only [List.setIfInBounds_toArray, List.set_cons_zero, List.set_cons_succ] at b1_1')
        clear hb2 K1
        clear b1_0 c1_0 f1_0 l1_0 e1_0 k1_0; have b1_0 := b1_0'; clear b1_0'
        clear b1_1 c1_1 f1_1 l1_1 e1_1 k1_1; have b1_1 := b1_1'; clear b1_1'
        obtain ⟨c1_0, f1_0, l1_0, e1_0, k1_0⟩ := Blk.facts b1_0
        obtain ⟨c1_1, f1_1, l1_1, e1_1, k1_1⟩ := Blk.facts b1_1
        go_wp2_with fail
        refine (RS.out _ (by (repeat' (first | (with_reducible exact K2) | (with_reducible refine Below.setCell ?_ ?_ _) | (with_reducible refine Below.alloc ?_ ?_ _) | (with_reducible refine Below.drew ?_) | (with_reducible refine below_drewN ?_ _))) <;> (first | omega | (simp <;> omega)))).mono ?_
        rintro e w3 ⟨rfl, hb3⟩
        have K3 : Below w.heap.size w w3 := kept_call hb3 (by (repeat' (first | (with_reducible exact K2) | (with_reducible refine Below.setCell ?_ ?_ _) | (with_reducible refine Below.alloc ?_ ?_ _) | (with_reducible refine Below.drew ?_) | (with_reducible refine below_drewN ?_ _))) <;> (first | omega | (simp <;> omega)))
        have Z3 : w.heap.size ≤ w3.heap.size := K3.size
        have b1_0' := Blk.keep (g := w.heap.size) hb3 (by (repeat' (first | (with_reducible refine' Blk.alloc ?_ _) | (with_reducible refine' Blk.drew ?_) | (with_reducible refine' Blk.drewN ?_ _) | (with_reducible refine' Blk.put ?_ ?_) | (with_reducible refine' Blk.far ?_ ?_ _) | exact b1_0 | exact rfl)) <;> (first | omega | (simp <;> omega)))
        (try simp only [List.setIfInBounds_toArray, List.set_cons_zero, List.set_cons_succ] at b1_0')
        have b1_1' := Blk.keep (g := w.heap.size + 1) hb3 (by (repeat' (first | (with_reducible refine' Blk.alloc ?_ _) | (with_reducible refine' Blk.drew ?_) | (with_reducible refine' Blk.drewN ?_ _) | (with_reducible refine' Blk.put ?_ ?_) | (with_reducible refine' Blk.far ?_ ?_ _) | exact b1_1 | exact rfl)) <;> (first | omega | (simp <;> omega)))
        (try simp only [List.setIfInBounds_toArray, List.set_cons_zero, List.set_cons_succ] at b1_1')
        clear hb3 K2
        clear b1_0 c1_0 f1_0 l1_0 e1_0 k1_0; have b1_0 := b1_0'; clear b1_0'
        clear b1_1 c1_1 f1_1 l1_1 e1_1 k1_1; have b1_1 := b1_1'; clear b1_1'
        obtain ⟨c1_0, f1_0, l1_0, e1_0, k1_0⟩ := Blk.facts b1_0
        obtain ⟨c1_1, f1_1, l1_1, e1_1, k1_1⟩ := Blk.facts b1_1
        go_upto_region 8 with fail
        refine' wp_region_calm (by kernel_rfl) (fun _ _ w' => Below w.heap.size w w' ∧ Blk w' (w.heap.size) 25 #[.int .i64 first, .slice A len cap] ∧ Blk w' (w.heap.size + 1) 52 #[.int .i64 c, .bool false, .int .i64 p]) (fun _ _ => True) [(Is _), (Is _), (Is _), (Is _), (Is _), (Is _), (Is _), (Is _)] [[], [0], [], [], [3], [2, 4], [1, 5], [6]] [] [] rfl (by kernel_rfl) (fun u => by (simp only [calmPut, Act.put, List.setIfInBounds_toArray, List.set_cons_zero, List.set_cons_succ, Nat.zero_add, Nat.reduceAdd]; rfl)) ?_ (calmKeep_cons keep_is' (calmKeep_cons keep_is' (calmKeep_cons keep_is' (calmKeep_cons keep_is' (calmKeep_cons keep_is' (calmKeep_cons keep_is' (calmKeep_cons keep_is' (calmKeep_cons keep_is' (calmKeep_nil))))))))) ?_ ?_
        · intro _
          exact ⟨(by (repeat' (first | (with_reducible exact K3) | (with_reducible refine Below.setCell ?_ ?_ _) | (with_reducible refine Below.alloc ?_ ?_ _) | (with_reducible refine Below.drew ?_) | (with_reducible refine below_drewN ?_ _))) <;> (first | omega | (simp <;> omega))), (by (repeat' (first | (with_reducible exact b1_0) | (with_reducible refine' Blk.alloc ?_ _) | (with_reducible refine' Blk.drew ?_) | (with_reducible refine' Blk.drewN ?_ _) | (with_reducible refine' Blk.put ?_ ?_) | (with_reducible refine' Blk.far ?_ ?_ _) | exact b1_0 | exact rfl)) <;> (first | omega | (simp <;> omega))), (by (repeat' (first | (with_reducible exact b1_1) | (with_reducible refine' Blk.alloc ?_ _) | (with_reducible refine' Blk.drew ?_) | (with_reducible refine' Blk.drewN ?_ _) | (with_reducible refine' Blk.put ?_ ?_) | (with_reducible refine' Blk.far ?_ ?_ _) | exact b1_1 | exact rfl)) <;> (first | omega | (simp <;> omega)))⟩
        rotate_left 8
        · skip
          refine calmSteps_cons (fun u wq n hn hn2 hC hk K hK => ?_) ?_
          · obtain ⟨hP, m1_0, m1_1⟩ := hC
            clear hk
            go_simp
            exact hK _ _ _ rfl ⟨hP, m1_0, m1_1⟩ trivial rfl
          refine calmSteps_cons (fun u wq n hn hn2 hC hk K hK => ?_) ?_
          · obtain ⟨hP, m1_0, m1_1⟩ := hC
            simp only [calmKnown, List.getElem?_cons_zero, List.getElem?_cons_succ, and_true, Is, Pure, Option.some.injEq, List.getD_cons_zero, List.getD_cons_succ, List.map_cons, List.map_nil] at hk
            have h0 := hk; clear hk
            simp only [h0] at hK ⊢
            have H0 := Lib.hid h0; clear h0
            have z1_0 := m1_0.cell
            have z1_1 := m1_1.cell
            go_simp
            exact hK _ _ _ rfl ⟨hP, m1_0, m1_1⟩ trivial rfl
          refine calmSteps_cons (fun u wq n hn hn2 hC hk K hK => ?_) ?_
          · obtain ⟨hP, m1_0, m1_1⟩ := hC
            clear hk
            have z1_0 := m1_0.cell
            have z1_1 := m1_1.cell
            go_simp
            exact hK _ _ _ rfl ⟨hP, m1_0, m1_1⟩ trivial rfl
          refine calmSteps_cons (fun u wq n hn hn2 hC hk K hK => ?_) ?_
          · obtain ⟨hP, m1_0, m1_1⟩ := hC
            clear hk
            go_simp
            exact hK _ _ _ rfl ⟨hP, m1_0, m1_1⟩ trivial rfl
          refine calmSteps_cons (fun u wq n hn hn2 hC hk K hK => ?_) ?_
          · obtain ⟨hP, m1_0, m1_1⟩ := hC
            simp only [calmKnown, List.getElem?_cons_zero, List.getElem?_cons_succ, and_true, Is, Pure, Option.some.injEq, List.getD_cons_zero, List.getD_cons_succ, List.map_cons, List.map_nil] at hk
            have h3 := hk; clear hk
            simp only [h3] at hK ⊢
            have H3 := Lib.hid h3; clear h3
            have z1_0 := m1_0.cell
            have z1_1 := m1_1.cell
            go_simp
            exact hK _ _ _ rfl ⟨hP, m1_0, m1_1⟩ trivial rfl
          refine calmSteps_cons (fun u wq n hn hn2 hC hk K hK => ?_) ?_
          · obtain ⟨hP, m1_0, m1_1⟩ := hC
            simp only [calmKnown, List.getElem?_cons_zero, List.getElem?_cons_succ, and_true, Is, Pure, Option.some.injEq, List.getD_cons_zero, List.getD_cons_succ, List.map_cons, List.map_nil] at hk
            obtain ⟨h2, h4⟩ := hk
            simp only [h2, h4] at hK ⊢
            have H2 := Lib.hid h2; clear h2; have H4 := Lib.hid h4; clear h4
            go_wp2_with fail
            first | (with_reducible refine (RO.out _ hP).mono ?_)
            rintro e w2 ⟨rfl, hbl⟩
            exact hK _ _ _ rfl ⟨kept_call hbl hP, Blk.keep hbl m1_0, Blk.keep hbl m1_1⟩ trivial rfl
          refine calmSteps_cons (fun u wq n hn hn2 hC hk K hK => ?_) ?_
          · obtain ⟨hP, m1_0, m1_1⟩ := hC
            simp only [calmKnown, List.getElem?_cons_zero, List.getElem?_cons_succ, and_true, Is, Pure, Option.some.injEq, List.getD_cons_zero, List.getD_cons_succ, List.map_cons, List.map_nil] at hk
            obtain ⟨h1, h5⟩ := hk
            simp only [h1, h5] at hK ⊢
            have H1 := Lib.hid h1; clear h1; have H5 := Lib.hid h5; clear h5
            go_simp
            exact hK _ _ _ rfl ⟨hP, m1_0, m1_1⟩ trivial rfl
          refine calmSteps_cons (fun u wq n hn hn2 hC hk K hK => ?_) ?_
          · obtain ⟨hP, m1_0, m1_1⟩ := hC
            simp only [calmKnown, List.getElem?_cons_zero, List.getElem?_cons_succ, and_true, Is, Pure, Option.some.injEq, List.getD_cons_zero, List.getD_cons_succ, List.map_cons, List.map_nil] at hk
            have h6 := hk; clear hk
            simp only [h6] at hK ⊢
            have H6 := Lib.hid h6; clear h6
            go_simp
            exact hK _ _ _ rfl ⟨hP, m1_0, m1_1⟩ trivial rfl
          exact calmSteps_nil
        · intro u w4 hC hF
          obtain ⟨hP, m1_0, m1_1⟩ := hC
          simp only [calmFacts, Is, and_true] at hF
          obtain ⟨f0, f1, f2, f3, f4, f5, f6, f7⟩ := hF
          simp only [f0, f1, f2, f3, f4, f5, f6, f7]
          clear f0 f1 f2 f3 f4 f5 f6 f7
          have K4 := hP
          have Z4 : w.heap.size ≤ w4.heap.size := K4.size
          clear hP K3
          clear b1_0 c1_0 f1_0 l1_0 e1_0 k1_0; have b1_0 := m1_0; clear m1_0
          obtain ⟨c1_0, f1_0, l1_0, e1_0, k1_0⟩ := Blk.facts b1_0
          clear b1_1 c1_1 f1_1 l1_1 e1_1 k1_1; have b1_1 := m1_1; clear m1_1
          obtain ⟨c1_1, f1_1, l1_1, e1_1, k1_1⟩ := Blk.facts b1_1
          go_wp2
          exact bodyPost_ret (v := .tuple #[.int .i64 ((c + ov) * 1048576 + p), .int .i64 0]) (by simp [results, Try.results101, go_sem, *]) rfl ⟨rfl, (by (repeat' (first | (with_reducible exact K4) | (with_reducible refine Below.setCell ?_ ?_ _) | (with_reducible refine Below.alloc ?_ ?_ _) | (with_reducible refine Below.drew ?_) | (with_reducible refine below_drewN ?_ _))) <;> (first | omega | (simp <;> omega)))⟩
    | true =>
      by_cases k0 : sv = -1
      · subst k0
        rw [if_pos (.inr rfl)]
        go_enter Try.func101, Try.ntmps101
        go_wp2_with fail
        refine (RV.out _ (by (repeat' (first | (with_reducible exact Below.refl _ _) | (with_reducible refine Below.setCell ?_ ?_ _) | (with_reducible refine Below.alloc ?_ ?_ _) | (with_reducible refine Below.drew ?_) | (with_reducible refine below_drewN ?_ _))) <;> (first | omega | (simp <;> omega)))).mono ?_
        rintro e w1 ⟨rfl, hb1⟩
        have K1 : Below w.heap.size w w1 := kept_call hb1 (by (repeat' (first | (with_reducible exact Below.refl _ _) | (with_reducible refine Below.setCell ?_ ?_ _) | (with_reducible refine Below.alloc ?_ ?_ _) | (with_reducible refine Below.drew ?_) | (with_reducible refine below_drewN ?_ _))) <;> (first | omega | (simp <;> omega)))
        have Z1 : w.heap.size ≤ w1.heap.size := K1.size
        have b1_0 := Blk.keep (g := w.heap.size) hb1 (by (repeat' (first | ((with_reducible refine' Blk.newE ?_); first | rfl | (simp; done)) | (with_reducible refine' Blk.alloc ?_ _) | (with_reducible refine' Blk.drew ?_) | (with_reducible refine' Blk.drewN ?_ _) | (with_reducible refine' Blk.put ?_ ?_) | (with_reducible refine' Blk.far ?_ ?_ _) | exact rfl)) <;> (first | omega | (simp <;> omega)))
        (try simp only [List.setIfInBounds_toArray, List.set_cons_zero, List.set_cons_succ] at b1_0)
        have b1_1 := Blk.keep (g := w.heap.size + 1) hb1 (by (repeat' (first | ((with_reducible refine' Blk.newE ?_); first | rfl | (simp; done)) | (with_reducible refine' Blk.alloc ?_ _) | (with_reducible refine' Blk.drew ?_) | (with_reducible refine' Blk.drewN ?_ _) | (with_reducible refine' Blk.put ?_ ?_) | (with_reducible refine' Blk.far ?_ ?_ _) | exact rfl)) <;> (first | omega | (simp <;> omega)))
        (try simp only [List.setIfInBounds_toArray, List.set_cons_zero, List.set_cons_succ] at b1_1)
        clear hb1
        obtain ⟨c1_0, f1_0, l1_0, e1_0, k1_0⟩ := Blk.facts b1_0
        obtain ⟨c1_1, f1_1, l1_1, e1_1, k1_1⟩ := Blk.facts b1_1
        have o1_0 := l1_0
        have o1_1 := l1_1
        go_wp2_with fail
        refine (RI.out _).mono ?_
        rintro e w2 ⟨rfl, hb2⟩
        have K2 : Below w.heap.size w w2 := kept_call hb2 (by (repeat' (first | (with_reducible exact K1) | (with_reducible refine Below.setCell ?_ ?_ _) | (with_reducible refine Below.alloc ?_ ?_ _) | (with_reducible refine Below.drew ?_) | (with_reducible refine below_drewN ?_ _))) <;> (first | omega | (simp <;> omega)))
        have Z2 : w.heap.size ≤ w2.heap.size := K2.size
        have b1_0' := Blk.keep (g := w.heap.size) hb2 (by (repeat' (first | (with_reducible refine' Blk.alloc ?_ _) | (with_reducible refine' Blk.drew ?_) | (with_reducible refine' Blk.drewN ?_ _) | (with_reducible refine' Blk.put ?_ ?_) | (with_reducible refine' Blk.far ?_ ?_ _) | exact b1_0 | exact rfl)) <;> (first | omega | (simp <;> omega)))
        (try simp only [List.setIfInBounds_toArray, List.set_cons_zero, List.set_cons_succ] at b1_0')
        have b1_1' := Blk.keep (g := w.heap.size + 1) hb2 (by (repeat' (first | (with_reducible refine' Blk.alloc ?_ _) | (with_reducible refine' Blk.drew ?_) | (with_reducible refine' Blk.drewN ?_ _) | (with_reducible refine' Blk.put ?_ ?_) | (with_reducible refine' Blk.far ?_ ?_ _) | exact b1_1 | exact rfl)) <;> (first | omega | (simp <;> omega)))
        (try simp only [List.setIfInBounds_toArray, List.set_cons_zero, List.set_cons_succ] at b1_1')
        clear hb2 K1
        clear b1_0 c1_0 f1_0 l1_0 e1_0 k1_0; have b1_0 := b1_0'; clear b1_0'
        clear b1_1 c1_1 f1_1 l1_1 e1_1 k1_1; have b1_1 := b1_1'; clear b1_1'
        obtain ⟨c1_0, f1_0, l1_0, e1_0, k1_0⟩ := Blk.facts b1_0
        obtain ⟨c1_1, f1_1, l1_1, e1_1, k1_1⟩ := Blk.facts b1_1
        go_wp2_with fail
        refine (RS.out _ (by (repeat' (first | (with_reducible exact K2) | (with_reducible refine Below.setCell ?_ ?_ _) | (with_reducible refine Below.alloc ?_ ?_ _) | (with_reducible refine Below.drew ?_) | (with_reducible refine below_drewN ?_ _))) <;> (first | omega | (simp <;> omega)))).mono ?_
        rintro e w3 ⟨rfl, hb3⟩
        have K3 : Below w.heap.size w w3 := kept_call hb3 (by (repeat' (first | (with_reducible exact K2) | (with_reducible refine Below.setCell ?_ ?_ _) | (with_reducible refine Below.alloc ?_ ?_ _) | (with_reducible refine Below.drew ?_) | (with_reducible refine below_drewN ?_ _))) <;> (first | omega | (simp <;> omega)))
        have Z3 : w.heap.size ≤ w3.heap.size := K3.size
        have b1_0' := Blk.keep (g := w.heap.size) hb3 (by (repeat' (first | (with_reducible refine' Blk.alloc ?_ _) | (with_reducible refine' Blk.drew ?_) | (with_reducible refine' Blk.drewN ?_ _) | (with_reducible refine' Blk.put ?_ ?_) | (with_reducible refine' Blk.far ?_ ?_ _) | exact b1_0 | exact rfl)) <;> (first | omega | (simp <;> omega)))
        (try simp only [List.setIfInBounds_toArray, List.set_cons_zero, List.set_cons_succ] at b1_0')
        have b1_1' := Blk.keep (g := w.heap.size + 1) hb3 (by (repeat' (first | (with_reducible refine' Blk.alloc ?_ _) | (with_reducible refine' Blk.drew ?_) | (with_reducible refine' Blk.drewN ?_ _) | (with_reducible refine' Blk.put ?_ ?_) | (with_reducible refine' Blk.far ?_ ?_ _) | exact b1_1 | exact rfl)) <;> (first | omega | (simp <;> omega)))
        (try simp only [List.setIfInBounds_toArray, List.set_cons_zero, List.set_cons_succ] at b1_1')
        clear hb3 K2
        clear b1_0 c1_0 f1_0 l1_0 e1_0 k1_0; have b1_0 := b1_0'; clear b1_0'
        clear b1_1 c1_1 f1_1 l1_1 e1_1 k1_1; have b1_1 := b1_1'; clear b1_1'
        obtain ⟨c1_0, f1_0, l1_0, e1_0, k1_0⟩ := Blk.facts b1_0
        obtain ⟨c1_1, f1_1, l1_1, e1_1, k1_1⟩ := Blk.facts b1_1
        go_wp2
        exact bodyPost_ret (v := .tuple #[.int .i64 0, .int .i64 10]) (by simp [results, Try.results101, go_sem, *]) rfl ⟨rfl, (by (repeat' (first | (with_reducible exact K3) | (with_reducible refine Below.setCell ?_ ?_ _) | (with_reducible refine Below.alloc ?_ ?_ _) | (with_reducible refine Below.drew ?_) | (with_reducible refine below_drewN ?_ _))) <;> (first | omega | (simp <;> omega)))⟩
      · have g3 : decide (sv = -1) = false := decide_eq_false k0
        have g4 : (sv == -1) = false := by simp [k0]
        by_cases k1 : sv = 1
        · subst k1
          rw [if_neg (by simp), if_pos rfl]
          go_enter Try.func101, Try.ntmps101
          go_wp2_with fail
          refine (RV.out _ (by (repeat' (first | (with_reducible exact Below.refl _ _) | (with_reducible refine Below.setCell ?_ ?_ _) | (with_reducible refine Below.alloc ?_ ?_ _) | (with_reducible refine Below.drew ?_) | (with_reducible refine below_drewN ?_ _))) <;> (first | omega | (simp <;> omega)))).mono ?_
          rintro e w1 ⟨rfl, hb1⟩
          have K1 : Below w.heap.size w w1 := kept_call hb1 (by (repeat' (first | (with_reducible exact Below.refl _ _) | (with_reducible refine Below.setCell ?_ ?_ _) | (with_reducible refine Below.alloc ?_ ?_ _) | (with_reducible refine Below.drew ?_) | (with_reducible refine below_drewN ?_ _))) <;> (first | omega | (simp <;> omega)))
          have Z1 : w.heap.size ≤ w1.heap.size := K1.size
          have b1_0 := Blk.keep (g := w.heap.size) hb1 (by (repeat' (first | ((with_reducible refine' Blk.newE ?_); first | rfl | (simp; done)) | (with_reducible refine' Blk.alloc ?_ _) | (with_reducible refine' Blk.drew ?_) | (with_reducible refine' Blk.drewN ?_ _) | (with_reducible refine' Blk.put ?_ ?_) | (with_reducible refine' Blk.far ?_ ?_ _) | exact rfl)) <;> (first | omega | (simp <;> omega)))
          (try simp only [List.setIfInBounds_toArray, List.set_cons_zero, List.set_cons_succ] at b1_0)
          have b1_1 := Blk.keep (g := w.heap.size + 1) hb1 (by (repeat' (first | ((with_reducible refine' Blk.newE ?_); first | rfl | (simp; done)) | (with_reducible refine' Blk.alloc ?_ _) | (with_reducible refine' Blk.drew ?_) | (with_reducible refine' Blk.drewN ?_ _) | (with_reducible refine' Blk.put ?_ ?_) | (with_reducible refine' Blk.far ?_ ?_ _) | exact rfl)) <;> (first | omega | (simp <;> omega)))
          (try simp only [List.setIfInBounds_toArray, List.set_cons_zero, List.set_cons_succ] at b1_1)
          clear hb1
          obtain ⟨c1_0, f1_0, l1_0, e1_0, k1_0⟩ := Blk.facts b1_0
          obtain ⟨c1_1, f1_1, l1_1, e1_1, k1_1⟩ := Blk.facts b1_1
          have o1_0 := l1_0
          have o1_1 := l1_1
          go_wp2_with fail
          refine (RI.out _).mono ?_
          rintro e w2 ⟨rfl, hb2⟩
          have K2 : Below w.heap.size w w2 := kept_call hb2 (by (repeat' (first | (with_reducible exact K1) | (with_reducible refine Below.setCell ?_ ?_ _) | (with_reducible refine Below.alloc ?_ ?_ _) | (with_reducible refine Below.drew ?_) | (with_reducible refine below_drewN ?_ _))) <;> (first | omega | (simp <;> omega)))
          have Z2 : w.heap.size ≤ w2.heap.size := K2.size
          have b1_0' := Blk.keep (g := w.heap.size) hb2 (by (repeat' (first | (with_reducible refine' Blk.alloc ?_ _) | (with_reducible refine' Blk.drew ?_) | (with_reducible refine' Blk.drewN ?_ _) | (with_reducible refine' Blk.put ?_ ?_) | (with_reducible refine' Blk.far ?_ ?_ _) | exact b1_0 | exact rfl)) <;> (first | omega | (simp <;> omega)))
          (try simp only [List.setIfInBounds_toArray, List.set_cons_zero, List.set_cons_succ] at b1_0')
          have b1_1' := Blk.keep (g := w.heap.size + 1) hb2 (by (repeat' (first | (with_reducible refine' Blk.alloc ?_ _) | (with_reducible refine' Blk.drew ?_) | (with_reducible refine' Blk.drewN ?_ _) | (with_reducible refine' Blk.put ?_ ?_) | (with_reducible refine' Blk.far ?_ ?_ _) | exact b1_1 | exact rfl)) <;> (first | omega | (simp <;> omega)))
          (try simp only [List.setIfInBounds_toArray, List.set_cons_zero, List.set_cons_succ] at b1_1')
          clear hb2 K1
          clear b1_0 c1_0 f1_0 l1_0 e1_0 k1_0; have b1_0 := b1_0'; clear b1_0'
          clear b1_1 c1_1 f1_1 l1_1 e1_1 k1_1; have b1_1 := b1_1'; clear b1_1'
          obtain ⟨c1_0, f1_0, l1_0, e1_0, k1_0⟩ := Blk.facts b1_0
          obtain ⟨c1_1, f1_1, l1_1, e1_1, k1_1⟩ := Blk.facts b1_1
          go_wp2_with fail
          refine (RS.out _ (by (repeat' (first | (with_reducible exact K2) | (with_reducible refine Below.setCell ?_ ?_ _) | (with_reducible refine Below.alloc ?_ ?_ _) | (with_reducible refine Below.drew ?_) | (with_reducible refine below_drewN ?_ _))) <;> (first | omega | (simp <;> omega)))).mono ?_
          rintro e w3 ⟨rfl, hb3⟩
          have K3 : Below w.heap.size w w3 := kept_call hb3 (by (repeat' (first | (with_reducible exact K2) | (with_reducible refine Below.setCell ?_ ?_ _) | (with_reducible refine Below.alloc ?_ ?_ _) | (with_reducible refine Below.drew ?_) | (with_reducible refine below_drewN ?_ _))) <;> (first | omega | (simp <;> omega)))
          have Z3 : w.heap.size ≤ w3.heap.size := K3.size
          have b1_0' := Blk.keep (g := w.heap.size) hb3 (by (repeat' (first | (with_reducible refine' Blk.alloc ?_ _) | (with_reducible refine' Blk.drew ?_) | (with_reducible refine' Blk.drewN ?_ _) | (with_reducible refine' Blk.put ?_ ?_) | (with_reducible refine' Blk.far ?_ ?_ _) | exact b1_0 | exact rfl)) <;> (first | omega | (simp <;> omega)))
          (try simp only [List.setIfInBounds_toArray, List.set_cons_zero, List.set_cons_succ] at b1_0')
          have b1_1' := Blk.keep (g := w.heap.size + 1) hb3 (by (repeat' (first | (with_reducible refine' Blk.alloc ?_ _) | (with_reducible refine' Blk.drew ?_) | (with_reducible refine' Blk.drewN ?_ _) | (with_reducible refine' Blk.put ?_ ?_) | (with_reducible refine' Blk.far ?_ ?_ _) | exact b1_1 | exact rfl)) <;> (first | omega | (simp <;> omega)))
          (try simp only [List.setIfInBounds_toArray, List.set_cons_zero, List.set_cons_succ] at b1_1')
          clear hb3 K2
          clear b1_0 c1_0 f1_0 l1_0 e1_0 k1_0; have b1_0 := b1_0'; clear b1_0'
          clear b1_1 c1_1 f1_1 l1_1 e1_1 k1_1; have b1_1 := b1_1'; clear b1_1'
          obtain ⟨c1_0, f1_0, l1_0, e1_0, k1_0⟩ := Blk.facts b1_0
          obtain ⟨c1_1, f1_1, l1_1, e1_1, k1_1⟩ := Blk.facts b1_1
          go_upto_region 8 with fail
          refine' wp_region_calm (by kernel_rfl) (fun _ _ w' => Below w.heap.size w w' ∧ Blk w' (w.heap.size) 25 #[.int .i64 first, .slice A len cap] ∧ Blk w' (w.heap.size + 1) 52 #[.int .i64 c, .bool true, .int .i64 p]) (fun _ _ => True) [(Is _), (Is _), (Is _), (Is _), (Is _), (Is _), (Is _), (Is _)] [[], [0], [], [], [3], [2, 4], [1, 5], [6]] [] [] rfl (by kernel_rfl) (fun u => by (simp only [calmPut, Act.put, List.setIfInBounds_toArray, List.set_cons_zero, List.set_cons_succ, Nat.zero_add, Nat.reduceAdd]; rfl)) ?_ (calmKeep_cons keep_is' (calmKeep_cons keep_is' (calmKeep_cons keep_is' (calmKeep_cons keep_is' (calmKeep_cons keep_is' (calmKeep_cons keep_is' (calmKeep_cons keep_is' (calmKeep_cons keep_is' (calmKeep_nil))))))))) ?_ ?_
          · intro _
            exact ⟨(by (repeat' (first | (with_reducible exact K3) | (with_reducible refine Below.setCell ?_ ?_ _) | (with_reducible refine Below.alloc ?_ ?_ _) | (with_reducible refine Below.drew ?_) | (with_reducible refine below_drewN ?_ _))) <;> (first | omega | (simp <;> omega))), (by (repeat' (first | (with_reducible exact b1_0) | (with_reducible refine' Blk.alloc ?_ _) | (with_reducible refine' Blk.drew ?_) | (with_reducible refine' Blk.drewN ?_ _) | (with_reducible refine' Blk.put ?_ ?_) | (with_reducible refine' Blk.far ?_ ?_ _) | exact b1_0 | exact rfl)) <;> (first | omega | (simp <;> omega))), (by (repeat' (first | (with_reducible exact b1_1) | (with_reducible refine' Blk.alloc ?_ _) | (with_reducible refine' Blk.drew ?_) | (with_reducible refine' Blk.drewN ?_ _) | (with_reducible refine' Blk.put ?_ ?_) | (with_reducible refine' Blk.far ?_ ?_ _) | exact b1_1 | exact rfl)) <;> (first | omega | (simp <;> omega)))⟩
          rotate_left 8
          · skip
            refine calmSteps_cons (fun u wq n hn hn2 hC hk K hK => ?_) ?_
            · obtain ⟨hP, m1_0, m1_1⟩ := hC
              clear hk
              go_simp
              exact hK _ _ _ rfl ⟨hP, m1_0, m1_1⟩ trivial rfl
            refine calmSteps_cons (fun u wq n hn hn2 hC hk K hK => ?_) ?_
            · obtain ⟨hP, m1_0, m1_1⟩ := hC
              simp only [calmKnown, List.getElem?_cons_zero, List.getElem?_cons_succ, and_true, Is, Pure, Option.some.injEq, List.getD_cons_zero, List.getD_cons_succ, List.map_cons, List.map_nil] at hk
              have h0 := hk; clear hk
              simp only [h0] at hK ⊢
              have H0 := Lib.hid h0; clear h0
              have z1_0 := m1_0.cell
              have z1_1 := m1_1.cell
              go_simp
              exact hK _ _ _ rfl ⟨hP, m1_0, m1_1⟩ trivial rfl
            refine calmSteps_cons (fun u wq n hn hn2 hC hk K hK => ?_) ?_
            · obtain ⟨hP, m1_0, m1_1⟩ := hC
              clear hk
              have z1_0 := m1_0.cell
              have z1_1 := m1_1.cell
              go_simp
              exact hK _ _ _ rfl ⟨hP, m1_0, m1_1⟩ trivial rfl
            refine calmSteps_cons (fun u wq n hn hn2 hC hk K hK => ?_) ?_
            · obtain ⟨hP, m1_0, m1_1⟩ := hC
              clear hk
              go_simp
              exact hK _ _ _ rfl ⟨hP, m1_0, m1_1⟩ trivial rfl
            refine calmSteps_cons (fun u wq n hn hn2 hC hk K hK => ?_) ?_
            · obtain ⟨hP, m1_0, m1_1⟩ := hC
              simp only [calmKnown, List.getElem?_cons_zero, List.getElem?_cons_succ, and_true, Is, Pure, Option.some.injEq, List.getD_cons_zero, List.getD_cons_succ, List.map_cons, List.map_nil] at hk
              have h3 := hk; clear hk
              simp only [h3] at hK ⊢
              have H3 := Lib.hid h3; clear h3
              have z1_0 := m1_0.cell
              have z1_1 := m1_1.cell
              go_simp
              exact hK _ _ _ rfl ⟨hP, m1_0, m1_1⟩ trivial rfl
            refine calmSteps_cons (fun u wq n hn hn2 hC hk K hK => ?_) ?_
            · obtain ⟨hP, m1_0, m1_1⟩ := hC
              simp only [calmKnown, List.getElem?_cons_zero, List.getElem?_cons_succ, and_true, Is, Pure, Option.some.injEq, List.getD_cons_zero, List.getD_cons_succ, List.map_cons, List.map_nil] at hk
              obtain ⟨h2, h4⟩ := hk
              simp only [h2, h4] at hK ⊢
              have H2 := Lib.hid h2; clear h2; have H4 := Lib.hid h4; clear h4
              go_wp2_with fail
              first | (with_reducible refine (RO.out _ hP).mono ?_)
              rintro e w2 ⟨rfl, hbl⟩
              exact hK _ _ _ rfl ⟨kept_call hbl hP, Blk.keep hbl m1_0, Blk.keep hbl m1_1⟩ trivial rfl
            refine calmSteps_cons (fun u wq n hn hn2 hC hk K hK => ?_) ?_
            · obtain ⟨hP, m1_0, m1_1⟩ := hC
              simp only [calmKnown, List.getElem?_cons_zero, List.getElem?_cons_succ, and_true, Is, Pure, Option.some.injEq, List.getD_cons_zero, List.getD_cons_succ, List.map_cons, List.map_nil] at hk
              obtain ⟨h1, h5⟩ := hk
              simp only [h1, h5] at hK ⊢
              have H1 := Lib.hid h1; clear h1; have H5 := Lib.hid h5; clear h5
              go_simp
              exact hK _ _ _ rfl ⟨hP, m1_0, m1_1⟩ trivial rfl
            refine calmSteps_cons (fun u wq n hn hn2 hC hk K hK => ?_) ?_
            · obtain ⟨hP, m1_0, m1_1⟩ := hC
              simp only [calmKnown, List.getElem?_cons_zero, List.getElem?_cons_succ, and_true, Is, Pure, Option.some.injEq, List.getD_cons_zero, List.getD_cons_succ, List.map_cons, List.map_nil] at hk
              have h6 := hk; clear hk
              simp only [h6] at hK ⊢
              have H6 := Lib.hid h6; clear h6
              go_simp
              exact hK _ _ _ rfl ⟨hP, m1_0, m1_1⟩ trivial rfl
            exact calmSteps_nil
          · intro u w4 hC hF
            obtain ⟨hP, m1_0, m1_1⟩ := hC
            simp only [calmFacts, Is, and_true] at hF
            obtain ⟨f0, f1, f2, f3, f4, f5, f6, f7⟩ := hF
            simp only [f0, f1, f2, f3, f4, f5, f6, f7]
            clear f0 f1 f2 f3 f4 f5 f6 f7
            have K4 := hP
            have Z4 : w.heap.size ≤ w4.heap.size := K4.size
            clear hP K3
            clear b1_0 c1_0 f1_0 l1_0 e1_0 k1_0; have b1_0 := m1_0; clear m1_0
            obtain ⟨c1_0, f1_0, l1_0, e1_0, k1_0⟩ := Blk.facts b1_0
            clear b1_1 c1_1 f1_1 l1_1 e1_1 k1_1; have b1_1 := m1_1; clear m1_1
            obtain ⟨c1_1, f1_1, l1_1, e1_1, k1_1⟩ := Blk.facts b1_1
            go_wp2
            exact bodyPost_ret (v := .tuple #[.int .i64 ((c + ov + 1) * 1048576 + p), .int .i64 0]) (by simp [results, Try.results101, go_sem, *]) rfl ⟨rfl, (by (repeat' (first | (with_reducible exact K4) | (with_reducible refine Below.setCell ?_ ?_ _) | (with_reducible refine Below.alloc ?_ ?_ _) | (with_reducible refine Below.drew ?_) | (with_reducible refine below_drewN ?_ _))) <;> (first | omega | (simp <;> omega)))⟩
        · have g5 : decide (sv = 1) = false := decide_eq_false k1
          have g6 : (sv != 1) = true := by simp [k1]
          rw [if_pos (.inl ⟨rfl, k1⟩)]
          go_enter Try.func101, Try.ntmps101
          go_wp2_with fail
          refine (RV.out _ (by (repeat' (first | (with_reducible exact Below.refl _ _) | (with_reducible refine Below.setCell ?_ ?_ _) | (with_reducible refine Below.alloc ?_ ?_ _) | (with_reducible refine Below.drew ?_) | (with_reducible refine below_drewN ?_ _))) <;> (first | omega | (simp <;> omega)))).mono ?_
          rintro e w1 ⟨rfl, hb1⟩
          have K1 : Below w.heap.size w w1 := kept_call hb1 (by (repeat' (first | (with_reducible exact Below.refl _ _) | (with_reducible refine Below.setCell ?_ ?_ _) | (with_reducible refine Below.alloc ?_ ?_ _) | (with_reducible refine Below.drew ?_) | (with_reducible refine below_drewN ?_ _))) <;> (first | omega | (simp <;> omega)))
          have Z1 : w.heap.size ≤ w1.heap.size := K1.size
          have b1_0 := Blk.keep (g := w.heap.size) hb1 (by (repeat' (first | ((with_reducible refine' Blk.newE ?_); first | rfl | (simp; done)) | (with_reducible refine' Blk.alloc ?_ _) | (with_reducible refine' Blk.drew ?_) | (with_reducible refine' Blk.drewN ?_ _) | (with_reducible refine' Blk.put ?_ ?_) | (with_reducible refine' Blk.far ?_ ?_ _) | exact rfl)) <;> (first | omega | (simp <;> omega)))
          (try simp only [List.setIfInBounds_toArray, List.set_cons_zero, List.set_cons_succ] at b1_0)
          have b1_1 := Blk.keep (g := w.heap.size + 1) hb1 (by (repeat' (first | ((with_reducible refine' Blk.newE ?_); first | rfl | (simp; done)) | (with_reducible refine' Blk.alloc ?_ _) | (with_reducible refine' Blk.drew ?_) | (with_reducible refine' Blk.drewN ?_ _) | (with_reducible refine' Blk.put ?_ ?_) | (with_reducible refine' Blk.far ?_ ?_ _) | exact rfl)) <;> (first | omega | (simp <;> omega)))
          (try simp only [List.setIfInBounds_toArray, List.set_cons_zero, List.set_cons_succ] at b1_1)
          clear hb1
          obtain ⟨c1_0, f1_0, l1_0, e1_0, k1_0⟩ := Blk.facts b1_0
          obtain ⟨c1_1, f1_1, l1_1, e1_1, k1_1⟩ := Blk.facts b1_1
          have o1_0 := l1_0
          have o1_1 := l1_1
          go_wp2_with fail
          refine (RI.out _).mono ?_
          rintro e w2 ⟨rfl, hb2⟩
          have K2 : Below w.heap.size w w2 := kept_call hb2 (by (repeat' (first | (with_reducible exact K1) | (with_reducible refine Below.setCell ?_ ?_ _) | (with_reducible refine Below.alloc ?_ ?_ _) | (with_reducible refine Below.drew ?_) | (with_reducible refine below_drewN ?_ _))) <;> (first | omega | (simp <;> omega)))
          have Z2 : w.heap.size ≤ w2.heap.size := K2.size
          have b1_0' := Blk.keep (g := w.heap.size) hb2 (by (repeat' (first | (with_reducible refine' Blk.alloc ?_ _) | (with_reducible refine' Blk.drew ?_) | (with_reducible refine' Blk.drewN ?_ _) | (with_reducible refine' Blk.put ?_ ?_) | (with_reducible refine' Blk.far ?_ ?_ _) | exact b1_0 | exact rfl)) <;> (first | omega | (simp <;> omega)))
          (try simp only [List.setIfInBounds_toArray, List.set_cons_zero, List.set_cons_succ] at b1_0')
          have b1_1' := Blk.keep (g := w.heap.size + 1) hb2 (by (repeat' (first | (with_reducible refine' Blk.alloc ?_ _) | (with_reducible refine' Blk.drew ?_) | (with_reducible refine' Blk.drewN ?_ _) | (with_reducible refine' Blk.put ?_ ?_) | (with_reducible refine' Blk.far ?_ ?_ _) | exact b1_1 | exact rfl)) <;> (first | omega | (simp <;> omega)))
          (try simp only [List.setIfInBounds_toArray, List.set_cons_zero, List.set_cons_succ] at b1_1')
          clear hb2 K1
          clear b1_0 c1_0 f1_0 l1_0 e1_0 k1_0; have b1_0 := b1_0'; clear b1_0'
          clear b1_1 c1_1 f1_1 l1_1 e1_1 k1_1; have b1_1 := b1_1'; clear b1_1'
          obtain ⟨c1_0, f1_0, l1_0, e1_0, k1_0⟩ := Blk.facts b1_0
          obtain ⟨c1_1, f1_1, l1_1, e1_1, k1_1⟩ := Blk.facts b1_1
          go_wp2_with fail
          refine (RS.out _ (by (repeat' (first | (with_reducible exact K2) | (with_reducible refine Below.setCell ?_ ?_ _) | (with_reducible refine Below.alloc ?_ ?_ _) | (with_reducible refine Below.drew ?_) | (with_reducible refine below_drewN ?_ _))) <;> (first | omega | (simp <;> omega)))).mono ?_
          rintro e w3 ⟨rfl, hb3⟩
          have K3 : Below w.heap.size w w3 := kept_call hb3 (by (repeat' (first | (with_reducible exact K2) | (with_reducible refine Below.setCell ?_ ?_ _) | (with_reducible refine Below.alloc ?_ ?_ _) | (with_reducible refine Below.drew ?_) | (with_reducible refine below_drewN ?_ _))) <;> (first | omega | (simp <;> omega)))
          have Z3 : w.heap.size ≤ w3.heap.size := K3.size
          have b1_0' := Blk.keep (g := w.heap.size) hb3 (by (repeat' (first | (with_reducible refine' Blk.alloc ?_ _) | (with_reducible refine' Blk.drew ?_) | (with_reducible refine' Blk.drewN ?_ _) | (with_reducible refine' Blk.put ?_ ?_) | (with_reducible refine' Blk.far ?_ ?_ _) | exact b1_0 | exact rfl)) <;> (first | omega | (simp <;> omega)))
          (try simp only [List.setIfInBounds_toArray, List.set_cons_zero, List.set_cons_succ] at b1_0')
          have b1_1' := Blk.keep (g := w.heap.size + 1) hb3 (by (repeat' (first | (with_reducible refine' Blk.alloc ?_ _) | (with_reducible refine' Blk.drew ?_) | (with_reducible refine' Blk.drewN ?_ _) | (with_reducible refine' Blk.put ?_ ?_) | (with_reducible refine' Blk.far ?_ ?_ _) | exact b1_1 | exact rfl)) <;> (first | omega | (simp <;> omega)))
          (try simp only [List.setIfInBounds_toArray, List.set_cons_zero, List.set_cons_succ] at b1_1')
          clear hb3 K2
          clear b1_0 c1_0 f1_0 l1_0 e1_0 k1_0; have b1_0 := b1_0'; clear b1_0'
          clear b1_1 c1_1 f1_1 l1_1 e1_1 k1_1; have b1_1 := b1_1'; clear b1_1'
          obtain ⟨c1_0, f1_0, l1_0, e1_0, k1_0⟩ := Blk.facts b1_0
          obtain ⟨c1_1, f1_1, l1_1, e1_1, k1_1⟩ := Blk.facts b1_1
          go_wp2
          exact bodyPost_ret (v := .tuple #[.int .i64 0, .int .i64 10]) (by simp [results, Try.results101, go_sem, *]) rfl ⟨rfl, (by (repeat' (first | (with_reducible exact K3) | (with_reducible refine Below.setCell ?_ ?_ _) | (with_reducible refine Below.alloc ?_ ?_ _) | (with_reducible refine Below.drew ?_) | (with_reducible refine below_drewN ?_ _))) <;> (first | omega | (simp <;> omega)))⟩
def RUo (w : World) (first : Int) (A : Option Addr) (len cap : Nat) (zs : List (Int × Int)) (tai : Int) (G : Nat) (i : Value) (wr : World) : Prop :=
  ∃ q : Nat, q ≤ 241 ∧ G = 241 - q ∧ i = .int .i64 (tai - 170 + q) ∧ (∀ c l, tai - 170 ≤ c → c < tai - 170 + q → taiB first zs tai c l = false) ∧ Blk wr w.heap.size 25 #[.int .i64 first, .slice A len cap] ∧ Blk wr (w.heap.size + 1) 52 #[.int .i64 0, .bool false, .int .i64 0] ∧ Below w.heap.size w wr
def RUi (w : World) (first : Int) (A : Option Addr) (len cap : Nat) (zs : List (Int × Int)) (tai c : Int) (G : Nat) (k : Value) (wr : World) : Prop :=
  ∃ j : Nat, j ≤ 2 ∧ G = 2 - j ∧ k = .int .i64 j ∧ (∀ l : Bool, l.toNat < j → taiB first zs tai c l = false) ∧ Blk wr w.heap.size 25 #[.int .i64 first, .slice A len cap] ∧ Blk wr (w.heap.size + 1) 52 #[.int .i64 0, .bool false, .int .i64 0] ∧ Below w.heap.size w wr
theorem ut_near {first : Int} {zs : List (Int × Int)} (hv : LVal first zs) {tai c : Int} {l : Bool} (h : taiB first zs tai c l = true) : tai - 170 ≤ c ∧ c < tai - 170 + 241 := by
  obtain ⟨-, -, -, h⟩ := taiB_true.1 h
  have := offL_in hv c
  split at h <;> omega
set_option maxRecDepth 100000 in
set_option maxHeartbeats 4000000 in
theorem rutc_any (first : Int) (A : Option Addr) (len cap : Nat) (zs : List (Int × Int)) (tt : Int) (hv : LVal first zs) (t0 : 0 ≤ tt) (t1 : tt ≤ 576460752303423488) (w : World) (h : PrAt w A len zs) (hz : ∀ z ∈ zs, IntIn z.1 ∧ IntIn z.2) :
    Calls Try.prog 74 #[.agg #[.int .i64 first, .slice A len cap], .int .i64 tt] w (RB w (utV first zs tt)) := by
  have tai0 : 0 ≤ tt / 1048576 ∧ tt / 1048576 ≤ 549755813888 := by omega
  have p01 : 0 ≤ tt % 1048576 ∧ tt % 1048576 < 1048576 := by omega
  have RV := Lib.hid (fun W (hW : Below w.heap.size w W) => bool_of (lvB_true.2 hv) (rlvalid_any first A len cap zs W (h.below hW) hz))
  have RT := Lib.hid (fun W => (show Calls _ _ _ _ (RB W (.int .i64 (tt / 1048576))) from (rsecond_anyK tt (by omega) (by omega) W).mono (fun _ _ hh => ⟨hh.1, hh.2 ▸ Below.refl _ _⟩)))
  have RP := Lib.hid (fun W => (show Calls _ _ _ _ (RB W (.int .i64 (tt % 1048576))) from (rpart_anyK tt (by omega) (by omega) W).mono (fun _ _ hh => ⟨hh.1, hh.2 ▸ Below.refl _ _⟩)))
  have R10 := Lib.hid (fun W => (show Calls _ _ _ _ (RB W (.bool true)) from (rvalid_any tt W).mono (fun _ _ hh => ⟨by rw [hh.1, vT_true.2 ⟨by omega, by omega⟩], hh.2 ▸ Below.refl _ _⟩)))
  have RA := Lib.hid (fun c l (c0 : -1000 ≤ c) (c1 : c ≤ 1099511627776) W (hW : Below w.heap.size w W) => rtai_any first A len cap zs c (tt % 1048576) l hv c0 c1 (by omega) (by omega) W (h.below hW) hz)
  have hit := fun c l => taiV_hit (first := first) (zs := zs) (c := c) (tt := tt) (l := l)
  have only := taiB_only hv (tt / 1048576)
  have near := fun c l => ut_near hv (tai := tt / 1048576) (c := c) (l := l)
  have VI := fun h => utV_in (first := first) (zs := zs) (t := tt) h
  have VO := fun h => utV_out (first := first) (zs := zs) (t := tt) h
  clear h hz hv
  have HIT := Lib.hid hit; have ONLY := Lib.hid only; have NEAR := Lib.hid near; have HVI := Lib.hid VI; have HVO := Lib.hid VO; clear hit only near VI VO
  generalize utB first zs (tt / 1048576) = B at *
  generalize utN first zs (tt / 1048576) = N at *
  generalize utV first zs tt = V at *
  generalize tt % 1048576 = part at *
  generalize tt / 1048576 = tai at *
  have w1 : IntKind.i64.wrap (tai - 170) = tai - 170 := IntWalk.i64_in _ (by omega)
  have w2 : IntKind.i64.wrap (tai + 70) = tai + 70 := IntWalk.i64_in _ (by omega)
  go_enter Try.func74, Try.ntmps74
  go_wp2_with fail
  refine (RV.out _ (by (repeat' (first | (with_reducible exact Below.refl _ _) | (with_reducible refine Below.setCell ?_ ?_ _) | (with_reducible refine Below.alloc ?_ ?_ _) | (with_reducible refine Below.drew ?_) | (with_reducible refine below_drewN ?_ _))) <;> (first | omega | (simp <;> omega)))).mono ?_
  rintro e w1 ⟨rfl, hb1⟩
  have K1 : Below w.heap.size w w1 := kept_call hb1 (by (repeat' (first | (with_reducible exact Below.refl _ _) | (with_reducible refine Below.setCell ?_ ?_ _) | (with_reducible refine Below.alloc ?_ ?_ _) | (with_reducible refine Below.drew ?_) | (with_reducible refine below_drewN ?_ _))) <;> (first | omega | (simp <;> omega)))
  have Z1 : w.heap.size ≤ w1.heap.size := K1.size
  have b1_0 := Blk.keep (g := w.heap.size) hb1 (by (repeat' (first | ((with_reducible refine' Blk.newE ?_); first | rfl | (simp; done)) | (with_reducible refine' Blk.alloc ?_ _) | (with_reducible refine' Blk.drew ?_) | (with_reducible refine' Blk.drewN ?_ _) | (with_reducible refine' Blk.put ?_ ?_) | (with_reducible refine' Blk.far ?_ ?_ _) | exact rfl)) <;> (first | omega | (simp <;> omega)))
  (try simp only [List.setIfInBounds_toArray, List.set_cons_zero, List.set_cons_succ] at b1_0)
  have b1_1 := Blk.keep (g := w.heap.size + 1) hb1 (by (repeat' (first | ((with_reducible refine' Blk.newE ?_); first | rfl | (simp; done)) | (with_reducible refine' Blk.alloc ?_ _) | (with_reducible refine' Blk.drew ?_) | (with_reducible refine' Blk.drewN ?_ _) | (with_reducible refine' Blk.put ?_ ?_) | (with_reducible refine' Blk.far ?_ ?_ _) | exact rfl)) <;> (first | omega | (simp <;> omega)))
  (try simp only [List.setIfInBounds_toArray, List.set_cons_zero, List.set_cons_succ] at b1_1)
  clear hb1
  obtain ⟨c1_0, f1_0, l1_0, e1_0, k1_0⟩ := Blk.facts b1_0
  obtain ⟨c1_1, f1_1, l1_1, e1_1, k1_1⟩ := Blk.facts b1_1
  have o1_0 := l1_0
  have o1_1 := l1_1
  go_wp2_with fail
  refine (R10.out _).mono ?_
  rintro e w2 ⟨rfl, hb2⟩
  have K2 : Below w.heap.size w w2 := kept_call hb2 (by (repeat' (first | (with_reducible exact K1) | (with_reducible refine Below.setCell ?_ ?_ _) | (with_reducible refine Below.alloc ?_ ?_ _) | (with_reducible refine Below.drew ?_) | (with_reducible refine below_drewN ?_ _))) <;> (first | omega | (simp <;> omega)))
  have Z2 : w.heap.size ≤ w2.heap.size := K2.size
  have b1_0' := Blk.keep (g := w.heap.size) hb2 (by (repeat' (first | (with_reducible refine' Blk.alloc ?_ _) | (with_reducible refine' Blk.drew ?_) | (with_reducible refine' Blk.drewN ?_ _) | (with_reducible refine' Blk.put ?_ ?_) | (with_reducible refine' Blk.far ?_ ?_ _) | exact b1_0 | exact rfl)) <;> (first | omega | (simp <;> omega)))
  (try simp only [List.setIfInBounds_toArray, List.set_cons_zero, List.set_cons_succ] at b1_0')
  have b1_1' := Blk.keep (g := w.heap.size + 1) hb2 (by (repeat' (first | (with_reducible refine' Blk.alloc ?_ _) | (with_reducible refine' Blk.drew ?_) | (with_reducible refine' Blk.drewN ?_ _) | (with_reducible refine' Blk.put ?_ ?_) | (with_reducible refine' Blk.far ?_ ?_ _) | exact b1_1 | exact rfl)) <;> (first | omega | (simp <;> omega)))
  (try simp only [List.setIfInBounds_toArray, List.set_cons_zero, List.set_cons_succ] at b1_1')
  clear hb2 K1
  clear b1_0 c1_0 f1_0 l1_0 e1_0 k1_0; have b1_0 := b1_0'; clear b1_0'
  clear b1_1 c1_1 f1_1 l1_1 e1_1 k1_1; have b1_1 := b1_1'; clear b1_1'
  obtain ⟨c1_0, f1_0, l1_0, e1_0, k1_0⟩ := Blk.facts b1_0
  obtain ⟨c1_1, f1_1, l1_1, e1_1, k1_1⟩ := Blk.facts b1_1
  go_wp2_with fail
  refine (RT.out _).mono ?_
  rintro e w3 ⟨rfl, hb3⟩
  have K3 : Below w.heap.size w w3 := kept_call hb3 (by (repeat' (first | (with_reducible exact K2) | (with_reducible refine Below.setCell ?_ ?_ _) | (with_reducible refine Below.alloc ?_ ?_ _) | (with_reducible refine Below.drew ?_) | (with_reducible refine below_drewN ?_ _))) <;> (first | omega | (simp <;> omega)))
  have Z3 : w.heap.size ≤ w3.heap.size := K3.size
  have b1_0' := Blk.keep (g := w.heap.size) hb3 (by (repeat' (first | (with_reducible refine' Blk.alloc ?_ _) | (with_reducible refine' Blk.drew ?_) | (with_reducible refine' Blk.drewN ?_ _) | (with_reducible refine' Blk.put ?_ ?_) | (with_reducible refine' Blk.far ?_ ?_ _) | exact b1_0 | exact rfl)) <;> (first | omega | (simp <;> omega)))
  (try simp only [List.setIfInBounds_toArray, List.set_cons_zero, List.set_cons_succ] at b1_0')
  have b1_1' := Blk.keep (g := w.heap.size + 1) hb3 (by (repeat' (first | (with_reducible refine' Blk.alloc ?_ _) | (with_reducible refine' Blk.drew ?_) | (with_reducible refine' Blk.drewN ?_ _) | (with_reducible refine' Blk.put ?_ ?_) | (with_reducible refine' Blk.far ?_ ?_ _) | exact b1_1 | exact rfl)) <;> (first | omega | (simp <;> omega)))
  (try simp only [List.setIfInBounds_toArray, List.set_cons_zero, List.set_cons_succ] at b1_1')
  clear hb3 K2
  clear b1_0 c1_0 f1_0 l1_0 e1_0 k1_0; have b1_0 := b1_0'; clear b1_0'
  clear b1_1 c1_1 f1_1 l1_1 e1_1 k1_1; have b1_1 := b1_1'; clear b1_1'
  obtain ⟨c1_0, f1_0, l1_0, e1_0, k1_0⟩ := Blk.facts b1_0
  obtain ⟨c1_1, f1_1, l1_1, e1_1, k1_1⟩ := Blk.facts b1_1
  go_wp2_with fail
  refine (RP.out _).mono ?_
  rintro e w4 ⟨rfl, hb4⟩
  have K4 : Below w.heap.size w w4 := kept_call hb4 (by (repeat' (first | (with_reducible exact K3) | (with_reducible refine Below.setCell ?_ ?_ _) | (with_reducible refine Below.alloc ?_ ?_ _) | (with_reducible refine Below.drew ?_) | (with_reducible refine below_drewN ?_ _))) <;> (first | omega | (simp <;> omega)))
  have Z4 : w.heap.size ≤ w4.heap.size := K4.size
  have b1_0' := Blk.keep (g := w.heap.size) hb4 (by (repeat' (first | (with_reducible refine' Blk.alloc ?_ _) | (with_reducible refine' Blk.drew ?_) | (with_reducible refine' Blk.drewN ?_ _) | (with_reducible refine' Blk.put ?_ ?_) | (with_reducible refine' Blk.far ?_ ?_ _) | exact b1_0 | exact rfl)) <;> (first | omega | (simp <;> omega)))
  (try simp only [List.setIfInBounds_toArray, List.set_cons_zero, List.set_cons_succ] at b1_0')
  have b1_1' := Blk.keep (g := w.heap.size + 1) hb4 (by (repeat' (first | (with_reducible refine' Blk.alloc ?_ _) | (with_reducible refine' Blk.drew ?_) | (with_reducible refine' Blk.drewN ?_ _) | (with_reducible refine' Blk.put ?_ ?_) | (with_reducible refine' Blk.far ?_ ?_ _) | exact b1_1 | exact rfl)) <;> (first | omega | (simp <;> omega)))
  (try simp only [List.setIfInBounds_toArray, List.set_cons_zero, List.set_cons_succ] at b1_1')
  clear hb4 K3
  clear b1_0 c1_0 f1_0 l1_0 e1_0 k1_0; have b1_0 := b1_0'; clear b1_0'
  clear b1_1 c1_1 f1_1 l1_1 e1_1 k1_1; have b1_1 := b1_1'; clear b1_1'
  obtain ⟨c1_0, f1_0, l1_0, e1_0, k1_0⟩ := Blk.facts b1_0
  obtain ⟨c1_1, f1_1, l1_1, e1_1, k1_1⟩ := Blk.facts b1_1
  go_wp2
  go_loopg [8] 241 (fun G i wr => RUo w first A len cap zs tai G i wr)
  case atStart => exact ⟨0, by omega, by omega, by simp, fun c l a b => by omega, by (repeat' (first | (with_reducible exact b1_0) | (with_reducible refine' Blk.alloc ?_ _) | (with_reducible refine' Blk.drew ?_) | (with_reducible refine' Blk.drewN ?_ _) | (with_reducible refine' Blk.put ?_ ?_) | (with_reducible refine' Blk.far ?_ ?_ _) | exact b1_0 | exact rfl)) <;> (first | omega | (simp <;> omega)), by (repeat' (first | (with_reducible exact b1_1) | (with_reducible refine' Blk.alloc ?_ _) | (with_reducible refine' Blk.drew ?_) | (with_reducible refine' Blk.drewN ?_ _) | (with_reducible refine' Blk.put ?_ ?_) | (with_reducible refine' Blk.far ?_ ?_ _) | exact b1_1 | exact rfl)) <;> (first | omega | (simp <;> omega)), by (repeat' (first | (with_reducible exact K4) | (with_reducible refine Below.setCell ?_ ?_ _) | (with_reducible refine Below.alloc ?_ ?_ _) | (with_reducible refine Below.drew ?_) | (with_reducible refine below_drewN ?_ _))) <;> (first | omega | (simp <;> omega))⟩
  case round =>
    obtain ⟨q, hq, rfl, rfl, hno, b0, b1, KR⟩ := hrel
    clear K4 b1_0 c1_0 f1_0 l1_0 e1_0 k1_0 b1_1 c1_1 f1_1 l1_1 e1_1 k1_1
    have ZR := KR.size
    have HNO := Lib.hid hno; clear hno
    obtain ⟨c0, f0, l0, e0, k0⟩ := Blk.facts b0
    obtain ⟨c1, f1, l1, e1, k1⟩ := Blk.facts b1
    by_cases hlt : q < 241
    · obtain ⟨c, hc⟩ : ∃ c, tai - 170 + (q : Int) = c := ⟨_, rfl⟩
      rw [hc]
      have gk : decide (c ≤ tai + 70) = true := decide_eq_true (by omega)
      have wc : IntKind.i64.wrap (c + 1) = c + 1 := IntWalk.i64_in _ (by omega)
      have cb0 : -1000 ≤ c := by omega
      have cb1 : c ≤ 1099511627776 := by omega
      have HC := Lib.hid hc; clear hc
      go_wp2
      generalize wr = w7 at *
      go_loopg [9] 2 (fun G k wr => RUi w first A len cap zs tai c G k wr)
      case atStart => exact ⟨0, by omega, by omega, rfl, fun l hl => by omega, by (repeat' (first | (with_reducible exact b0) | (with_reducible refine' Blk.alloc ?_ _) | (with_reducible refine' Blk.drew ?_) | (with_reducible refine' Blk.drewN ?_ _) | (with_reducible refine' Blk.put ?_ ?_) | (with_reducible refine' Blk.far ?_ ?_ _) | exact b0 | exact rfl)) <;> (first | omega | (simp <;> omega)), by (repeat' (first | (with_reducible exact b1) | (with_reducible refine' Blk.alloc ?_ _) | (with_reducible refine' Blk.drew ?_) | (with_reducible refine' Blk.drewN ?_ _) | (with_reducible refine' Blk.put ?_ ?_) | (with_reducible refine' Blk.far ?_ ?_ _) | exact b1 | exact rfl)) <;> (first | omega | (simp <;> omega)), by (repeat' (first | (with_reducible exact KR) | (with_reducible refine Below.setCell ?_ ?_ _) | (with_reducible refine Below.alloc ?_ ?_ _) | (with_reducible refine Below.drew ?_) | (with_reducible refine below_drewN ?_ _))) <;> (first | omega | (simp <;> omega))⟩
      case round =>
        obtain ⟨j, hj, rfl, rfl, hnj, b0', b1', KS⟩ := hrel
        clear KR ZR b0 c0 f0 l0 e0 k0 b1 c1 f1 l1 e1 k1
        have b0 := b0'; have b1 := b1'; clear b0' b1'
        have ZS := KS.size
        have HNJ := Lib.hid hnj; clear hnj
        obtain ⟨c0, f0, l0, e0, k0⟩ := Blk.facts b0
        obtain ⟨c1, f1, l1, e1, k1⟩ := Blk.facts b1
        by_cases hj2 : j < 2
        · have gj : decide ((j : Int) < 2) = true := decide_eq_true (by omega)
          have wj : IntKind.i64.wrap ((j : Int) + 1) = ((j + 1 : Nat) : Int) := by rw [IntWalk.i64_in _ (by omega)]; omega
          obtain ⟨l, hl⟩ : ∃ l : Bool, decide ((j : Int) = 1) = l := ⟨_, rfl⟩
          have hlb : (((j : Int) == 1) : Bool) = l := by rw [← hl]; rfl
          have hlj : l.toNat = j := by have : j = 0 ∨ j = 1 := by omega
                                       rcases this with rfl | rfl <;> (subst hl; rfl)
          have ra := RA.out c l cb0 cb1
          have hh := HIT.out c l
          obtain ⟨⟨x, e⟩, hx⟩ : ∃ p, taiV first zs c l part = p := ⟨_, rfl⟩
          rw [hx] at ra hh
          dsimp only at ra hh
          have RAA := Lib.hid ra; have HLJ := Lib.hid hlj; have HL := Lib.hid hl; clear ra hx hlj
          by_cases he : e = 0 ∧ x = tt
          · obtain ⟨rfl, rfl⟩ := he
            have hb := hh.1 ⟨rfl, rfl⟩
            rw [ONLY.out] at hb
            simp only [Bool.and_eq_true, decide_eq_true_eq] at hb
            obtain ⟨hb1, hb2, hb3⟩ := hb
            have hV := HVI.out hb1
            rw [← hb2, ← hb3] at hV
            have HVV := Lib.hid hV; clear hV hb1 hb2 hb3 hh
            have hl := HL.out
            go_wp2_with fail
            refine (RAA.out _ (by (repeat' (first | (with_reducible exact KS) | (with_reducible refine Below.setCell ?_ ?_ _) | (with_reducible refine Below.alloc ?_ ?_ _) | (with_reducible refine Below.drew ?_) | (with_reducible refine below_drewN ?_ _))) <;> (first | omega | (simp <;> omega)))).mono ?_
            rintro e w5 ⟨rfl, hb5⟩
            have K5 : Below w.heap.size w w5 := kept_call hb5 (by (repeat' (first | (with_reducible exact KS) | (with_reducible refine Below.setCell ?_ ?_ _) | (with_reducible refine Below.alloc ?_ ?_ _) | (with_reducible refine Below.drew ?_) | (with_reducible refine below_drewN ?_ _))) <;> (first | omega | (simp <;> omega)))
            have Z5 : w.heap.size ≤ w5.heap.size := K5.size
            have b0' := Blk.keep (g := w.heap.size) hb5 (by (repeat' (first | (with_reducible refine' Blk.alloc ?_ _) | (with_reducible refine' Blk.drew ?_) | (with_reducible refine' Blk.drewN ?_ _) | (with_reducible refine' Blk.put ?_ ?_) | (with_reducible refine' Blk.far ?_ ?_ _) | exact b0 | exact rfl)) <;> (first | omega | (simp <;> omega)))
            (try simp only [List.setIfInBounds_toArray, List.set_cons_zero, List.set_cons_succ] at b0')
            have b1' := Blk.keep (g := w.heap.size + 1) hb5 (by (repeat' (first | (with_reducible refine' Blk.alloc ?_ _) | (with_reducible refine' Blk.drew ?_) | (with_reducible refine' Blk.drewN ?_ _) | (with_reducible refine' Blk.put ?_ ?_) | (with_reducible refine' Blk.far ?_ ?_ _) | exact b1 | exact rfl)) <;> (first | omega | (simp <;> omega)))
            (try simp only [List.setIfInBounds_toArray, List.set_cons_zero, List.set_cons_succ] at b1')
            have b5_0 := Blk.keep (g := wr.heap.size) hb5 (by (repeat' (first | ((with_reducible refine' Blk.newE ?_); first | rfl | (simp; done)) | (with_reducible refine' Blk.alloc ?_ _) | (with_reducible refine' Blk.drew ?_) | (with_reducible refine' Blk.drewN ?_ _) | (with_reducible refine' Blk.put ?_ ?_) | (with_reducible refine' Blk.far ?_ ?_ _) | exact rfl)) <;> (first | omega | (simp <;> omega)))
            (try simp only [List.setIfInBounds_toArray, List.set_cons_zero, List.set_cons_succ] at b5_0)
            clear hb5 KS
            clear b0 c0 f0 l0 e0 k0; have b0 := b0'; clear b0'
            clear b1 c1 f1 l1 e1 k1; have b1 := b1'; clear b1'
            obtain ⟨c0, f0, l0, e0, k0⟩ := Blk.facts b0
            obtain ⟨c1, f1, l1, e1, k1⟩ := Blk.facts b1
            obtain ⟨c5_0, f5_0, l5_0, e5_0, k5_0⟩ := Blk.facts b5_0
            have o5_0 := l5_0
            go_wp2
            exact bodyPost_ret (v := .tuple #[.agg #[.int .i64 c, .bool l, .int .i64 part], .int .i64 0]) (by simp [results, Try.results74, go_sem, *]) rfl ⟨by rw [HVV.out], (by (repeat' (first | (with_reducible exact K5) | (with_reducible refine Below.setCell ?_ ?_ _) | (with_reducible refine Below.alloc ?_ ?_ _) | (with_reducible refine Below.drew ?_) | (with_reducible refine below_drewN ?_ _))) <;> (first | omega | (simp <;> omega)))⟩
          · have hb : taiB first zs tai c l = false := by
              cases hbb : taiB first zs tai c l with
              | false => rfl
              | true => exact absurd (hh.2 hbb) he
            have HB := Lib.hid hb; clear hb hh
            have hl := HL.out
            by_cases e0 : e = 0
            · subst e0
              have gx : decide (x = tt) = false := decide_eq_false (fun hx => he ⟨rfl, hx⟩)
              have gx2 : (x == tt) = false := by simpa using gx
              go_wp2_with fail
              refine (RAA.out _ (by (repeat' (first | (with_reducible exact KS) | (with_reducible refine Below.setCell ?_ ?_ _) | (with_reducible refine Below.alloc ?_ ?_ _) | (with_reducible refine Below.drew ?_) | (with_reducible refine below_drewN ?_ _))) <;> (first | omega | (simp <;> omega)))).mono ?_
              rintro e w5 ⟨rfl, hb5⟩
              have K5 : Below w.heap.size w w5 := kept_call hb5 (by (repeat' (first | (with_reducible exact KS) | (with_reducible refine Below.setCell ?_ ?_ _) | (with_reducible refine Below.alloc ?_ ?_ _) | (with_reducible refine Below.drew ?_) | (with_reducible refine below_drewN ?_ _))) <;> (first | omega | (simp <;> omega)))
              have Z5 : w.heap.size ≤ w5.heap.size := K5.size
              have b0' := Blk.keep (g := w.heap.size) hb5 (by (repeat' (first | (with_reducible refine' Blk.alloc ?_ _) | (with_reducible refine' Blk.drew ?_) | (with_reducible refine' Blk.drewN ?_ _) | (with_reducible refine' Blk.put ?_ ?_) | (with_reducible refine' Blk.far ?_ ?_ _) | exact b0 | exact rfl)) <;> (first | omega | (simp <;> omega)))
              (try simp only [List.setIfInBounds_toArray, List.set_cons_zero, List.set_cons_succ] at b0')
              have b1' := Blk.keep (g := w.heap.size + 1) hb5 (by (repeat' (first | (with_reducible refine' Blk.alloc ?_ _) | (with_reducible refine' Blk.drew ?_) | (with_reducible refine' Blk.drewN ?_ _) | (with_reducible refine' Blk.put ?_ ?_) | (with_reducible refine' Blk.far ?_ ?_ _) | exact b1 | exact rfl)) <;> (first | omega | (simp <;> omega)))
              (try simp only [List.setIfInBounds_toArray, List.set_cons_zero, List.set_cons_succ] at b1')
              have b5_0 := Blk.keep (g := wr.heap.size) hb5 (by (repeat' (first | ((with_reducible refine' Blk.newE ?_); first | rfl | (simp; done)) | (with_reducible refine' Blk.alloc ?_ _) | (with_reducible refine' Blk.drew ?_) | (with_reducible refine' Blk.drewN ?_ _) | (with_reducible refine' Blk.put ?_ ?_) | (with_reducible refine' Blk.far ?_ ?_ _) | exact rfl)) <;> (first | omega | (simp <;> omega)))
              (try simp only [List.setIfInBounds_toArray, List.set_cons_zero, List.set_cons_succ] at b5_0)
              clear hb5 KS
              clear b0 c0 f0 l0 e0 k0; have b0 := b0'; clear b0'
              clear b1 c1 f1 l1 e1 k1; have b1 := b1'; clear b1'
              obtain ⟨c0, f0, l0, e0, k0⟩ := Blk.facts b0
              obtain ⟨c1, f1, l1, e1, k1⟩ := Blk.facts b1
              obtain ⟨c5_0, f5_0, l5_0, e5_0, k5_0⟩ := Blk.facts b5_0
              have o5_0 := l5_0
              go_wp2
              go_roundg (2 - (j + 1))
              case measure => omega
              case rel => exact ⟨j + 1, by omega, by omega, by go_num, fun l' hl' => by have h1 := HLJ.out; by_cases e9 : l' = l; (rw [e9]; exact HB.out); (exact HNJ.out l' (by cases l' <;> cases l <;> simp at * <;> omega)), by (repeat' (first | (with_reducible exact b0) | (with_reducible refine' Blk.alloc ?_ _) | (with_reducible refine' Blk.drew ?_) | (with_reducible refine' Blk.drewN ?_ _) | (with_reducible refine' Blk.put ?_ ?_) | (with_reducible refine' Blk.far ?_ ?_ _) | exact b0 | exact rfl)) <;> (first | omega | (simp <;> omega)), by (repeat' (first | (with_reducible exact b1) | (with_reducible refine' Blk.alloc ?_ _) | (with_reducible refine' Blk.drew ?_) | (with_reducible refine' Blk.drewN ?_ _) | (with_reducible refine' Blk.put ?_ ?_) | (with_reducible refine' Blk.far ?_ ?_ _) | exact b1 | exact rfl)) <;> (first | omega | (simp <;> omega)), by (repeat' (first | (with_reducible exact K5) | (with_reducible refine Below.setCell ?_ ?_ _) | (with_reducible refine Below.alloc ?_ ?_ _) | (with_reducible refine Below.drew ?_) | (with_reducible refine below_drewN ?_ _))) <;> (first | omega | (simp <;> omega))⟩
            · have ge : decide (e = 0) = false := decide_eq_false e0
              have ge2 : (e == 0) = false := by simpa using e0
              go_wp2_with fail
              refine (RAA.out _ (by (repeat' (first | (with_reducible exact KS) | (with_reducible refine Below.setCell ?_ ?_ _) | (with_reducible refine Below.alloc ?_ ?_ _) | (with_reducible refine Below.drew ?_) | (with_reducible refine below_drewN ?_ _))) <;> (first | omega | (simp <;> omega)))).mono ?_
              rintro e w5 ⟨rfl, hb5⟩
              have K5 : Below w.heap.size w w5 := kept_call hb5 (by (repeat' (first | (with_reducible exact KS) | (with_reducible refine Below.setCell ?_ ?_ _) | (with_reducible refine Below.alloc ?_ ?_ _) | (with_reducible refine Below.drew ?_) | (with_reducible refine below_drewN ?_ _))) <;> (first | omega | (simp <;> omega)))
              have Z5 : w.heap.size ≤ w5.heap.size := K5.size
              have b0' := Blk.keep (g := w.heap.size) hb5 (by (repeat' (first | (with_reducible refine' Blk.alloc ?_ _) | (with_reducible refine' Blk.drew ?_) | (with_reducible refine' Blk.drewN ?_ _) | (with_reducible refine' Blk.put ?_ ?_) | (with_reducible refine' Blk.far ?_ ?_ _) | exact b0 | exact rfl)) <;> (first | omega | (simp <;> omega)))
              (try simp only [List.setIfInBounds_toArray, List.set_cons_zero, List.set_cons_succ] at b0')
              have b1' := Blk.keep (g := w.heap.size + 1) hb5 (by (repeat' (first | (with_reducible refine' Blk.alloc ?_ _) | (with_reducible refine' Blk.drew ?_) | (with_reducible refine' Blk.drewN ?_ _) | (with_reducible refine' Blk.put ?_ ?_) | (with_reducible refine' Blk.far ?_ ?_ _) | exact b1 | exact rfl)) <;> (first | omega | (simp <;> omega)))
              (try simp only [List.setIfInBounds_toArray, List.set_cons_zero, List.set_cons_succ] at b1')
              have b5_0 := Blk.keep (g := wr.heap.size) hb5 (by (repeat' (first | ((with_reducible refine' Blk.newE ?_); first | rfl | (simp; done)) | (with_reducible refine' Blk.alloc ?_ _) | (with_reducible refine' Blk.drew ?_) | (with_reducible refine' Blk.drewN ?_ _) | (with_reducible refine' Blk.put ?_ ?_) | (with_reducible refine' Blk.far ?_ ?_ _) | exact rfl)) <;> (first | omega | (simp <;> omega)))
              (try simp only [List.setIfInBounds_toArray, List.set_cons_zero, List.set_cons_succ] at b5_0)
              clear hb5 KS
              clear b0 c0 f0 l0 e0 k0; have b0 := b0'; clear b0'
              clear b1 c1 f1 l1 e1 k1; have b1 := b1'; clear b1'
              obtain ⟨c0, f0, l0, e0, k0⟩ := Blk.facts b0
              obtain ⟨c1, f1, l1, e1, k1⟩ := Blk.facts b1
              obtain ⟨c5_0, f5_0, l5_0, e5_0, k5_0⟩ := Blk.facts b5_0
              have o5_0 := l5_0
              go_wp2
              go_roundg (2 - (j + 1))
              case measure => omega
              case rel => exact ⟨j + 1, by omega, by omega, by go_num, fun l' hl' => by have h1 := HLJ.out; by_cases e9 : l' = l; (rw [e9]; exact HB.out); (exact HNJ.out l' (by cases l' <;> cases l <;> simp at * <;> omega)), by (repeat' (first | (with_reducible exact b0) | (with_reducible refine' Blk.alloc ?_ _) | (with_reducible refine' Blk.drew ?_) | (with_reducible refine' Blk.drewN ?_ _) | (with_reducible refine' Blk.put ?_ ?_) | (with_reducible refine' Blk.far ?_ ?_ _) | exact b0 | exact rfl)) <;> (first | omega | (simp <;> omega)), by (repeat' (first | (with_reducible exact b1) | (with_reducible refine' Blk.alloc ?_ _) | (with_reducible refine' Blk.drew ?_) | (with_reducible refine' Blk.drewN ?_ _) | (with_reducible refine' Blk.put ?_ ?_) | (with_reducible refine' Blk.far ?_ ?_ _) | exact b1 | exact rfl)) <;> (first | omega | (simp <;> omega)), by (repeat' (first | (with_reducible exact K5) | (with_reducible refine Below.setCell ?_ ?_ _) | (with_reducible refine Below.alloc ?_ ?_ _) | (with_reducible refine Below.drew ?_) | (with_reducible refine below_drewN ?_ _))) <;> (first | omega | (simp <;> omega))⟩
        · obtain rfl : 2 = j := by omega
          have gj : decide (((2 : Nat) : Int) < 2) = false := by decide
          go_wp2
          go_roundg (241 - (q + 1))
          case measure => omega
          case rel => exact ⟨q + 1, by omega, by omega, by have := HC.out; go_num, fun c' l' h1 h2 => by have hc := HC.out; by_cases e9 : c' = c; (rw [e9]; exact HNJ.out l' (by cases l' <;> simp)); (exact HNO.out c' l' h1 (by omega)), by (repeat' (first | (with_reducible exact b0) | (with_reducible refine' Blk.alloc ?_ _) | (with_reducible refine' Blk.drew ?_) | (with_reducible refine' Blk.drewN ?_ _) | (with_reducible refine' Blk.put ?_ ?_) | (with_reducible refine' Blk.far ?_ ?_ _) | exact b0 | exact rfl)) <;> (first | omega | (simp <;> omega)), by (repeat' (first | (with_reducible exact b1) | (with_reducible refine' Blk.alloc ?_ _) | (with_reducible refine' Blk.drew ?_) | (with_reducible refine' Blk.drewN ?_ _) | (with_reducible refine' Blk.put ?_ ?_) | (with_reducible refine' Blk.far ?_ ?_ _) | exact b1 | exact rfl)) <;> (first | omega | (simp <;> omega)), by (repeat' (first | (with_reducible exact KS) | (with_reducible refine Below.setCell ?_ ?_ _) | (with_reducible refine Below.alloc ?_ ?_ _) | (with_reducible refine Below.drew ?_) | (with_reducible refine below_drewN ?_ _))) <;> (first | omega | (simp <;> omega))⟩
    · obtain rfl : 241 = q := by omega
      have gk : decide (tai - 170 + ((241 : Nat) : Int) ≤ tai + 70) = false := decide_eq_false (by omega)
      have hin : ¬ inS N = true := fun hin => by
        have h1 := ONLY.out N B
        rw [hin] at h1
        have h2 : taiB first zs tai N B = true := by rw [h1]; simp
        have h3 := NEAR.out N B h2
        rw [HNO.out N B h3.1 h3.2] at h2; cases h2
      have hV := HVO.out hin
      have HVV := Lib.hid hV; clear hV hin
      go_wp2
      exact bodyPost_ret (v := .tuple #[.agg #[.int .i64 0, .bool false, .int .i64 0], .int .i64 9]) (by simp [results, Try.results74, go_sem, *]) rfl ⟨by rw [HVV.out], (by (repeat' (first | (with_reducible exact KR) | (with_reducible refine Below.setCell ?_ ?_ _) | (with_reducible refine Below.alloc ?_ ?_ _) | (with_reducible refine Below.drew ?_) | (with_reducible refine below_drewN ?_ _))) <;> (first | omega | (simp <;> omega)))⟩
end Go.Proofs.Ytmebkbnildjfhaa
