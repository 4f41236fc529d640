/- Lemmas. -/
import Derived.BigQuiet
import Derived.Deep.DeepCutAuto
import Derived.Deep.LoopGhost
import Derived.Deep.QuietTactic
import Derived.Test.YtiinmhfolfgobaaGreatDoorJ7
import Derived.Test.YtiinmhfolfgobaaGreatDoorTape
import Derived.Test.YtiinmhfolfgobaaGreatDoorJ4
set_option linter.unusedVariables false
set_option linter.unusedSimpArgs false
namespace Go.Proofs.YtiinmhfolfgobaaGreatDoor
open Go.RowKit
theorem TapeAt.drewN {w : World} {b : Nat} (h : TapeAt w b) (n : Nat) : TapeAt (w.drewN n) b := h.below (below_drewN Yl n)
theorem below_grown2 {b : Nat} {a w w' : World} (h : Below a.heap.size a w) (hg : w.grownBy w' (some b)) (hB : a.heap.size ≤ b) : Below a.heap.size a w' :=
 below_grown h hg hB h.size
theorem Blk.keepG {w w' : World} {g b : Nat} {t : TypeId} {cs : Array Value} (hg : w.grownBy w' (some b)) (h : Blk w g t cs) (hn : g ≠ b) : Blk w' g t cs :=
 (hg.block g h.lt (by simpa using hn)).trans h
def Kp (w W : World) : Prop := Below w.heap.size w W
theorem Kp.below {w W W' : World} (h : Kp w W) (hb : Below W.heap.size W W') : Kp w W' := Yc hb h
theorem Kp.b {w W : World} (h : Kp w W) : Below w.heap.size w W := h
theorem Blk.below {w w' : World} {g : Nat} {t : TypeId} {cs : Array Value} (h : Blk w g t cs) (hb : Below w.heap.size w w') : Blk w' g t cs := Yk hb h
def Past (X : List Nat) (w w' : World) : Prop := w.heap.size ≤ w'.heap.size ∧ w'.os = w.os ∧ w'.tape = w.tape ∧ w'.output = w.output ∧ ∀ k, k < w.heap.size → k ∉ X → w'.heap[k]? = w.heap[k]?
theorem Past.refl (X : List Nat) (w : World) : Past X w w := ⟨Nat.le_refl _, rfl, rfl, rfl, fun _ _ _ => rfl⟩
theorem Past.trans {X : List Nat} {a b c : World} (h : Past X a b) (k : Past X b c) : Past X a c :=
 ⟨Nat.le_trans h.1 k.1, k.2.1.trans h.2.1, k.2.2.1.trans h.2.2.1, k.2.2.2.1.trans h.2.2.2.1, fun q hq hn => (k.2.2.2.2 q (Nat.lt_of_lt_of_le hq h.1) hn).trans (h.2.2.2.2 q hq hn)⟩
theorem Past.below {X : List Nat} {w w' : World} (h : Below w.heap.size w w') : Past X w w' := ⟨h.size, h.os, h.tape, h.output, fun k hk _ => h.block k hk⟩
theorem Past.alloc (X : List Nat) (w : World) (o : Obj) : Past X w (w.alloc o) := Past.below (Yl.alloc (Nat.le_refl _) _)
theorem Past.drew {X : List Nat} {w w' : World} (h : Past X w w') : Past X w w'.drew := h
theorem Past.set {X : List Nat} {w : World} {a : Addr} (h : a.block ∈ X) (v : Value) : Past X w (w.setCell a v) := ⟨by simp [World.setCell], rfl, rfl, rfl, fun k hk hn => Below.heap_setCell _ _ _ _ (fun e => hn (e ▸ h))⟩
theorem Past.blk {X : List Nat} {w w' : World} {g : Nat} {t : TypeId} {cs : Array Value} (h : Past X w w') (hb : Blk w g t cs) (hn : g ∉ X) : Blk w' g t cs := (h.2.2.2.2 g hb.lt hn).trans hb
def SliceN (X : List Nat) (t : TypeId) (n : Nat) (cs : Array Value) : List Value → Value → World → Prop := fun _ v w => ∃ g, v = .slice (some ⟨g, 0, none⟩) n n ∧ g ∉ X ∧ Blk w g t cs
theorem keep_is' {R : World → World → Prop} {c : Value} : ∀ d v w w', R w w' → Is c d v w → Is c d v w' := fun _ _ _ _ _ h => h
def Pure (p : List Value → Value → Prop) : List Value → Value → World → Prop := fun d v _ => p d v
theorem keep_triv {R : World → World → Prop} : ∀ (d : List Value) (v : Value) w w', R w w' → (fun _ _ _ => True : List Value → Value → World → Prop) d v w → (fun _ _ _ => True : List Value → Value → World → Prop) d v w' := fun _ _ _ _ _ h => h
theorem Past.far {X : List Nat} {W w : World} {a : Addr} (h : Past X W w) (ha : W.heap.size ≤ a.block) (v : Value) : Past X W (w.setCell a v) := ⟨by simp [World.setCell]; exact h.1, h.2.1, h.2.2.1, h.2.2.2.1, fun k hk hn => (Below.heap_setCell _ _ _ _ Yo).trans (h.2.2.2.2 k hk hn)⟩
def NewC (base : Nat) (T : TypeId) (zs : Array Value) (n : Nat) (us : List Value) (w' : World) : Prop :=
 n = 0 ∨ ∃ g, us[0]? = some (.pointer (some ⟨g, 0, none⟩)) ∧ base ≤ g ∧ g < w'.heap.size ∧ (n = 1 → Blk w' g T zs) ∧ (n = 2 → ∃ cs, us[1]? = some (.agg cs) ∧ Blk w' g T cs)
theorem NewC.keep {base b : Nat} {T : TypeId} {zs : Array Value} {n : Nat} {us : List Value} {w w' : World} (h : NewC base T zs n us w) (hp : Past [b] w w') (hb : b < base) : NewC base T zs n us w' := by
 rcases h with h | ⟨g, h1, h2, h3, h4, h5⟩
 ·exact .inl h
 ·have hn : g ∉ [b] := by simp; omega
  exact .inr ⟨g, h1, h2, Nat.lt_of_lt_of_le h3 hp.1, fun e => hp.blk (h4 e) hn, fun e => (h5 e).imp fun cs q => ⟨q.1, hp.blk q.2 hn⟩⟩
theorem NewC.val {base : Nat} {T : TypeId} {zs : Array Value} {n : Nat} {p x y : Value} {w : World} (h : NewC base T zs n [p, x] w) (hn : n ≤ 1) : NewC base T zs n [p, y] w := by
 rcases h with h | ⟨g, h1, h2, h3, h4, h5⟩
 ·exact .inl h
 ·exact .inr ⟨g, by simpa using h1, h2, h3, h4, fun e => by omega⟩
theorem NewC.made {base : Nat} {T : TypeId} {zs : Array Value} {x : Value} {w : World} (hb : base ≤ w.heap.size) : NewC base T zs 1 [.pointer (some ⟨w.heap.size, 0, none⟩), x] (w.alloc (.cells zs T)) :=
 .inr ⟨w.heap.size, rfl, hb, by simp, fun _ => Blk.new _ _ _, fun e => by omega⟩
theorem NewC.last {base : Nat} {T : TypeId} {zs : Array Value} {p x : Value} {w : World} (h : NewC base T zs 2 [p, x] w) : ∃ g cs, p = .pointer (some ⟨g, 0, none⟩) ∧ base ≤ g ∧ x = .agg cs ∧ Blk w g T cs := by
 rcases h with h | ⟨g, h1, h2, h3, h4, h5⟩
 ·omega
 ·obtain ⟨cs, e, hB⟩ := h5 rfl
  exact ⟨g, cs, by simpa using h1, h2, by simpa using e, hB⟩
theorem NewC.one {base : Nat} {T : TypeId} {zs : Array Value} {p x : Value} {w : World} (h : NewC base T zs 1 [p, x] w) : ∃ g, p = .pointer (some ⟨g, 0, none⟩) ∧ base ≤ g ∧ g < w.heap.size ∧ Blk w g T zs := by
 rcases h with h | ⟨g, h1, h2, h3, h4, h5⟩
 ·omega
 ·exact ⟨g, by simpa using h1, h2, h3, h4 rfl⟩
theorem NewC.stored {base : Nat} {T : TypeId} {zs cs : Array Value} {g : Nat} {w : World} (hb : base ≤ g) (h : Blk w g T cs) : NewC base T zs 2 [.pointer (some ⟨g, 0, none⟩), .agg cs] w :=
 .inr ⟨g, rfl, hb, h.lt, fun e => by omega, fun _ => ⟨cs, rfl, h⟩⟩
theorem Yq {w : World} {g : Nat} {t : TypeId} {cs : Array Value} (h : Blk w g t cs) : (∀ i, w.cell? ⟨g, i, none⟩ = cs[i]?) ∧ g < w.heap.size := ⟨h.cell, h.lt⟩
abbrev Yz := @calmSteps_cons
abbrev Yw := @calmSteps_nil
theorem Y1 {R : World → World → Prop} {c : Value} {l : List (List Value → Value → World → Prop)} (k : CalmKeep R l) : CalmKeep R (Is c :: l) := calmKeep_cons keep_is' k
theorem Y0 {R : World → World → Prop} {l : List (List Value → Value → World → Prop)} (k : CalmKeep R l) : CalmKeep R ((fun _ _ _ => True) :: l) := calmKeep_cons keep_triv k
theorem Yn {R : World → World → Prop} : CalmKeep R [] := calmKeep_nil
theorem Yp {β : Type} {f g : (Nat → Value) → β} (h : ∀ u, f u = g u := by intro u; (simp only [calmPut, Act.put, List.setIfInBounds_toArray, List.set_cons_zero, List.set_cons_succ, Nat.zero_add, Nat.reduceAdd]; rfl)) : ∀ u, f u = g u := h
set_option maxHeartbeats 8000000
def inD (d ppb : Int) : Bool := decide (0 ≤ d ∧ d ≤ 576460752303423488 ∧ 0 ≤ ppb ∧ ppb ≤ 1000000)
theorem inD_true {d ppb : Int} : inD d ppb = true ↔ 0 ≤ d ∧ d ≤ 576460752303423488 ∧ 0 ≤ ppb ∧ ppb ≤ 1000000 := by simp [inD]
theorem inD_false {d ppb : Int} (h : ¬ (0 ≤ d ∧ d ≤ 576460752303423488 ∧ 0 ≤ ppb ∧ ppb ≤ 1000000)) : inD d ppb = false := by simp only [inD, decide_eq_false_iff_not]; exact h
def bdD (ppb : Int) : Bool := decide (0 ≤ ppb ∧ ppb ≤ 1000000)
theorem bound_any (ppb : Int) (w : World) : Calls Tryz.prog 106 #[.int .i64 ppb] w fun e w' => e = .returned (.bool (bdD ppb)) ∧ w = w' := by
 by_cases h1 : 0 ≤ ppb
 ·by_cases h2 : ppb ≤ 1000000
  ·rw [show bdD ppb = true by simp [bdD, h1, h2]]
   go_enter Tryz.func106, Tryz.ntmps106
   go_wp2; go_ret; exact ⟨rfl, rfl⟩
  ·rw [show bdD ppb = false by simp [bdD, h1, h2]]
   go_enter Tryz.func106, Tryz.ntmps106
   go_wp2; go_ret; exact ⟨rfl, rfl⟩
 ·rw [show bdD ppb = false by simp [bdD, h1]]
  go_enter Tryz.func106, Tryz.ntmps106
  go_wp2; go_ret; exact ⟨rfl, rfl⟩
theorem in_any (d ppb : Int) (w : World) : Calls Tryz.prog 70 #[.int .i64 d, .int .i64 ppb] w fun e w' => e = .returned (.bool (inD d ppb)) ∧ w = w' := by
 by_cases h1 : 0 ≤ d
 ·by_cases h2 : d ≤ 576460752303423488
  ·have e1 : inD d ppb = bdD ppb := by simp [inD, bdD, h1, h2]
   rw [e1]
   go_enter Tryz.func70, Tryz.ntmps70
   go_wp2_with (go_at_call 106; refine (bound_any _ _).mono ?_; rintro e w1 ⟨rfl, rfl⟩)
   go_ret; exact ⟨rfl, rfl⟩
  ·rw [inD_false Yo]
   go_enter Tryz.func70, Tryz.ntmps70
   go_wp2; go_ret; exact ⟨rfl, rfl⟩
 ·rw [inD_false Yo]
  go_enter Tryz.func70, Tryz.ntmps70
  go_wp2; go_ret; exact ⟨rfl, rfl⟩
def elLo (d ppb : Int) : Int := quo d 1000000000 (1000000000 + ppb) false
def elHi (d ppb : Int) : Int := quo d 1000000000 (1000000000 - ppb) true
def outV (d ppb lo hi : Int) : Value := if inD d ppb then .tuple #[.agg #[.int .i64 lo, .int .i64 hi], .int .i64 0] else .tuple #[.agg #[.int .i64 0, .int .i64 0], .int .i64 4]
theorem outV_ok {d ppb lo hi : Int} (h : inD d ppb = true) : outV d ppb lo hi = .tuple #[.agg #[.int .i64 lo, .int .i64 hi], .int .i64 0] := by unfold outV; rw [if_pos h]
theorem outV_no {d ppb lo hi : Int} (h : inD d ppb = false) : outV d ppb lo hi = .tuple #[.agg #[.int .i64 0, .int .i64 0], .int .i64 4] := by unfold outV; rw [if_neg (by rw [h]; simp)]
theorem scaled_le (d b c : Int) (hd : 0 ≤ d) (hd1 : d ≤ 576460752303423488) (hb : 0 ≤ b) (hb1 : b ≤ 1001000000) (hc : 999000000 ≤ c) : 0 ≤ d * b / c ∧ d * b / c ≤ 1152921504606846976 := by
 have p0 : 0 ≤ d * b := Int.mul_nonneg hd hb
 refine ⟨Int.ediv_nonneg p0 Yo, ?_⟩
 have p1 : d * b ≤ 576460752303423488 * 1001000000 := Int.mul_le_mul hd1 hb1 hb Yo
 apply Int.le_of_lt_add_one
 apply Int.ediv_lt_of_lt_mul Yo
 have p2 : (1152921504606846976 + 1) * 999000000 ≤ (1152921504606846976 + 1) * c := Int.mul_le_mul_of_nonneg_left hc Yo
 omega
theorem quot_d (d b c : Int) (up : Bool) (w : World) (hd : 0 ≤ d) (hd1 : d ≤ 576460752303423488) (hb : 0 ≤ b) (hb1 : b ≤ 1001000000) (hc : 999000000 ≤ c) (hc1 : c ≤ 1001000000) :
  Calls Tryz.prog 71 #[.int .i64 d, .int .i64 b, .int .i64 c, .bool up] w fun e w' => e = .returned (.int .i64 (quo d b c up)) ∧ ∃ n, w' = w.drewN n :=
 quotient_pos d b c up w hd Yo hb Yo Yo Yo (by have := scaled_le d b c hd hd1 hb hb1 hc; omega)
theorem elapsed_any (d ppb : Int) (w : World) : Calls Tryz.prog 46 #[.int .i64 d, .int .i64 ppb] w (RB w (outV d ppb (elLo d ppb) (elHi d ppb))) := by
 rcases h : inD d ppb
 ·rw [outV_no h]
  go_enter Tryz.func46, Tryz.ntmps46
  go_wp2_with (go_at_call 70; refine (in_any _ _ _).mono ?_; rintro e w1 ⟨rfl, rfl⟩)
  exact bodyPost_ret (v := .tuple #[.agg #[.int .i64 0, .int .i64 0], .int .i64 4]) (by simp [results, Tryz.results46, go_sem]) rfl ⟨rfl, by (repeat' (first | (with_reducible exact Below.refl _ _) | (with_reducible refine Below.setCell ?_ ?_ _) | (with_reducible refine Below.alloc ?_ ?_ _) | (with_reducible refine Below.drew ?_) | (with_reducible refine below_drewN ?_ _))) <;> (first | omega | (simp <;> omega))⟩
 ·rw [outV_ok h]
  obtain ⟨h1, h2, h3, h4⟩ := inD_true.1 h
  unfold elLo elHi
  go_enter Tryz.func46, Tryz.ntmps46
  go_wp2_with (first | (go_at_call 70; refine (in_any _ _ _).mono ?_; rintro e w1 ⟨rfl, rfl⟩) | (go_at_call 71; refine (quot_d _ _ _ _ _ Yo Yo Yo Yo Yo Yo).mono ?_; rintro e w1 ⟨rfl, n, rfl⟩))
  exact bodyPost_ret (v := .tuple #[.agg #[.int .i64 (quo d 1000000000 (1000000000 + ppb) false), .int .i64 (quo d 1000000000 (1000000000 - ppb) true)], .int .i64 0]) (by simp [results, Tryz.results46, go_sem]) rfl ⟨rfl, by (repeat' (first | (with_reducible exact Below.refl _ _) | (with_reducible refine Below.setCell ?_ ?_ _) | (with_reducible refine Below.alloc ?_ ?_ _) | (with_reducible refine Below.drew ?_) | (with_reducible refine below_drewN ?_ _))) <;> (first | omega | (simp <;> omega))⟩
def fitIn (e d ppb : Int) : Prop := 0 ≤ e ∧ e ≤ 1152921504606846976 ∧ 0 ≤ d ∧ d ≤ 1152921504606846976 ∧ 0 ≤ ppb ∧ ppb ≤ 1000000
def fitsP (e d ppb : Int) : Prop := fitIn e d ppb ∧ e * (1000000000 - ppb) ≤ d * 1000000000 ∧ d * 1000000000 ≤ e * (1000000000 + ppb)
instance (e d ppb : Int) : Decidable (fitsP e d ppb) := by unfold fitsP fitIn; infer_instance
theorem rin_any (d ppb : Int) (w : World) : Calls Tryz.prog 63 #[.int .i64 d, .int .i64 ppb] w fun e w' => e = .returned (.bool (inD d ppb)) ∧ w = w' := by
 by_cases h1 : 0 ≤ d
 ·by_cases h2 : d ≤ 576460752303423488
  ·by_cases h3 : 0 ≤ ppb
   ·by_cases h4 : ppb ≤ 1000000
    ·rw [inD_true.2 ⟨h1, h2, h3, h4⟩]
     go_enter Tryz.func63, Tryz.ntmps63
     go_wp2; go_ret; exact ⟨rfl, rfl⟩
    ·rw [inD_false Yo]
     go_enter Tryz.func63, Tryz.ntmps63
     go_wp2; go_ret; exact ⟨rfl, rfl⟩
   ·rw [inD_false Yo]
    go_enter Tryz.func63, Tryz.ntmps63
    go_wp2; go_ret; exact ⟨rfl, rfl⟩
  ·rw [inD_false Yo]
   go_enter Tryz.func63, Tryz.ntmps63
   go_wp2; go_ret; exact ⟨rfl, rfl⟩
 ·rw [inD_false Yo]
  go_enter Tryz.func63, Tryz.ntmps63
  go_wp2; go_ret; exact ⟨rfl, rfl⟩
theorem ratio_any (a b c : Int) (up : Bool) (w : World) (hd : 0 ≤ a) (hd1 : a ≤ 576460752303423488) (hb : 0 ≤ b) (hb1 : b ≤ 1001000000) (hc : 999000000 ≤ c) (hc1 : c ≤ 1001000000) :
  Calls Tryz.prog 64 #[.int .i64 a, .int .i64 b, .int .i64 c, .bool up] w fun e w' => e = .returned (.int .i64 (quo a b c up)) ∧ ∃ n, w' = w.drewN n := by
 have e := Int.ediv_mul_add_emod a c
 have r0 := Int.emod_nonneg a (show c ≠ 0 by omega)
 have r1 := Int.emod_lt_of_pos a (show 0 < c by omega)
 have q0 : 0 ≤ a / c := Int.ediv_nonneg hd Yo
 have q1 : 0 ≤ a / c * c := Int.mul_nonneg q0 Yo
 have q2 : a - a / c * c = a % c := by omega
 have k1 : a / c * 999000000 ≤ a / c * c := Int.mul_le_mul_of_nonneg_left hc q0
 have k2 : a / c ≤ 577037790 := by omega
 have m0 : 0 ≤ a % c * b := Int.mul_nonneg r0 hb
 have m1 : a % c * b ≤ 1001000000 * 1001000000 := Int.mul_le_mul Yo hb1 hb Yo
 have n0 : 0 ≤ a / c * b := Int.mul_nonneg q0 hb
 have n1 : a / c * b ≤ 577037790 * 1001000000 := Int.mul_le_mul k2 hb1 hb Yo
 have eq1 : quo a b c up = a / c * b + rnd (a % c * b) c up := by
  rw [quo_rnd, ← rnd_add _ _ _ _ Yo]
  congr 1
  have : a / c * b * c = a / c * c * b := by rw [Int.mul_assoc, Int.mul_comm b, ← Int.mul_assoc]
  rw [this, ← Int.add_mul]
  congr 1; omega
 have hi := ediv_in (a % c * b) c Yo Yo Yo
 have d1 : a % c * b / c ≤ 1002001 * 1000000 := by
  apply Int.le_of_lt_add_one; apply Int.ediv_lt_of_lt_mul Yo
  have : (1002001 * 1000000 + 1) * 999000000 ≤ (1002001 * 1000000 + 1) * c := Int.mul_le_mul_of_nonneg_left hc Yo
  omega
 have rb : -1 ≤ rnd (a % c * b) c up ∧ rnd (a % c * b) c up ≤ 1002001 * 1000000 + 1 := by
  have d0 : 0 ≤ a % c * b / c := Int.ediv_nonneg m0 Yo
  cases up
  ·show -1 ≤ a % c * b / c ∧ a % c * b / c ≤ _; omega
  ·rw [rnd_up _ _ Yo]; split <;> omega
 have E := Yh eq1
 clear e k1 k2 eq1
 go_enter Tryz.func64, Tryz.ntmps64
 go_wp2_with (go_at_call 102; refine (rounded_any _ _ _ _ Yo Yo Yo Yo Yo).mono ?_; rintro e w1 ⟨rfl, rfl⟩)
 go_ret
 exact ⟨by rw [E.out]; rfl, 0, rfl⟩
theorem relapsed_any (d ppb : Int) (w : World) : Calls Tryz.prog 39 #[.int .i64 d, .int .i64 ppb] w (RB w (outV d ppb (elLo d ppb) (elHi d ppb))) := by
 rcases h : inD d ppb
 ·rw [outV_no h]
  go_enter Tryz.func39, Tryz.ntmps39
  go_wp2_with (go_at_call 63; refine (rin_any _ _ _).mono ?_; rintro e w1 ⟨rfl, rfl⟩)
  exact bodyPost_ret (v := .tuple #[.agg #[.int .i64 0, .int .i64 0], .int .i64 4]) (by simp [results, Tryz.results39, go_sem]) rfl ⟨rfl, by (repeat' (first | (with_reducible exact Below.refl _ _) | (with_reducible refine Below.setCell ?_ ?_ _) | (with_reducible refine Below.alloc ?_ ?_ _) | (with_reducible refine Below.drew ?_) | (with_reducible refine below_drewN ?_ _))) <;> (first | omega | (simp <;> omega))⟩
 ·rw [outV_ok h]
  obtain ⟨h1, h2, h3, h4⟩ := inD_true.1 h
  unfold elLo elHi
  go_enter Tryz.func39, Tryz.ntmps39
  go_wp2_with (first | (go_at_call 63; refine (rin_any _ _ _).mono ?_; rintro e w1 ⟨rfl, rfl⟩) | (go_at_call 64; refine (ratio_any _ _ _ _ _ Yo Yo Yo Yo Yo Yo).mono ?_; rintro e w1 ⟨rfl, n, rfl⟩))
  exact bodyPost_ret (v := .tuple #[.agg #[.int .i64 (quo d 1000000000 (1000000000 + ppb) false), .int .i64 (quo d 1000000000 (1000000000 - ppb) true)], .int .i64 0]) (by simp [results, Tryz.results39, go_sem]) rfl ⟨rfl, by (repeat' (first | (with_reducible exact Below.refl _ _) | (with_reducible refine Below.setCell ?_ ?_ _) | (with_reducible refine Below.alloc ?_ ?_ _) | (with_reducible refine Below.drew ?_) | (with_reducible refine below_drewN ?_ _))) <;> (first | omega | (simp <;> omega))⟩
end Go.Proofs.YtiinmhfolfgobaaGreatDoor
