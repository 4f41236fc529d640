/- What a client knows: the errors and values of Check, Now, Learn (plain). -/
import Derived.Test.YtlnboheahbfgfaaGreatEl
import Derived.Test.YtlnboheahbfgfaaGreatJ21
namespace Go.Proofs.YtlnboheahbfgfaaGreat
open Go.RowKit

/-- A count. -/
def ctB (n : Int) : Bool := decide (0 ≤ n ∧ n ≤ 1152921504606846976)
/-- What Check returns. -/
def kE (at_ lo hi ppb le re : Int) : Int := if vS lo hi = false then 3 else if vT at_ = true ∧ 0 ≤ ppb ∧ ppb ≤ 1000000 ∧ ctB le = true ∧ ctB re = true then 0 else 4
theorem kE_3 {at_ lo hi ppb le re : Int} (h : vS lo hi = false) : kE at_ lo hi ppb le re = 3 := by unfold kE; rw [if_pos h]
theorem kE_4 {at_ lo hi ppb le re : Int} (h : vS lo hi = true) (h' : ¬ (vT at_ = true ∧ 0 ≤ ppb ∧ ppb ≤ 1000000 ∧ ctB le = true ∧ ctB re = true)) : kE at_ lo hi ppb le re = 4 := by unfold kE; rw [if_neg (by rw [h]; simp), if_neg h']
theorem kE_0 {at_ lo hi ppb le re : Int} (h : vS lo hi = true) (h1 : vT at_ = true) (h2 : 0 ≤ ppb) (h3 : ppb ≤ 1000000) (h4 : ctB le = true) (h5 : ctB re = true) : kE at_ lo hi ppb le re = 0 := by unfold kE; rw [if_neg (by rw [h]; simp), if_pos ⟨h1, h2, h3, h4, h5⟩]
theorem kE_all {at_ lo hi ppb le re : Int} (h : kE at_ lo hi ppb le re = 0) : vS lo hi = true ∧ vT at_ = true ∧ 0 ≤ ppb ∧ ppb ≤ 1000000 ∧ ctB le = true ∧ ctB re = true := by
  unfold kE at h
  split at h
  · omega
  · rename_i q
    split at h
    · rename_i q'
      exact ⟨by simpa using q, q'⟩
    · omega
/-- A span and an error. -/
def V3 (x : Int × Int × Int) : Value := .tuple #[.agg #[.int .i64 x.1, .int .i64 x.2.1], .int .i64 x.2.2]
def opT (ok in_ : Bool) (lo hi : Int) : Int × Int × Int := if ok then (if in_ then (if vS lo hi then (lo, hi, 0) else (0, 0, 4)) else (0, 0, 4)) else (0, 0, 3)
theorem opV_opT (ok in_ : Bool) (lo hi : Int) : opV ok in_ lo hi = V3 (opT ok in_ lo hi) := by
  unfold opV opT mkS V3
  cases ok <;> cases in_ <;> simp
  split <;> rfl
/-- What Now returns. -/
def nowT (at_ lo hi ppb le re u : Int) : Int × Int × Int := if kE at_ lo hi ppb le re ≠ 0 then (0, 0, kE at_ lo hi ppb le re) else if u < at_ then (0, 0, 12) else if vT u = false then (0, 0, 4) else opT (vS lo hi) (inD (u - at_) ppb) (lo + elLo (u - at_) ppb) (hi + elHi (u - at_) ppb)
theorem nowT_e {at_ lo hi ppb le re u : Int} (h : kE at_ lo hi ppb le re ≠ 0) : nowT at_ lo hi ppb le re u = (0, 0, kE at_ lo hi ppb le re) := by unfold nowT; rw [if_pos h]
theorem nowT_12 {at_ lo hi ppb le re u : Int} (h : kE at_ lo hi ppb le re = 0) (h' : u < at_) : nowT at_ lo hi ppb le re u = (0, 0, 12) := by unfold nowT; rw [if_neg (by omega), if_pos h']
theorem nowT_4 {at_ lo hi ppb le re u : Int} (h : kE at_ lo hi ppb le re = 0) (h' : ¬ u < at_) (h2 : vT u = false) : nowT at_ lo hi ppb le re u = (0, 0, 4) := by unfold nowT; rw [if_neg (by omega), if_neg h', if_pos h2]
theorem nowT_ok {at_ lo hi ppb le re u : Int} (h : kE at_ lo hi ppb le re = 0) (h' : ¬ u < at_) (h2 : vT u = true) : nowT at_ lo hi ppb le re u = opT (vS lo hi) (inD (u - at_) ppb) (lo + elLo (u - at_) ppb) (hi + elHi (u - at_) ppb) := by
  unfold nowT; rw [if_neg (by omega), if_neg h', if_neg (by rw [h2]; simp)]
/-- Known and all: what Learn returns. -/
def V6 (at_ lo hi ppb le re : Int) (ok : Bool) (e : Int) : Value := .tuple #[.agg #[.int .i64 at_, .int .i64 lo, .int .i64 hi, .int .i64 ppb, .int .i64 le, .int .i64 re], .bool ok, .int .i64 e]
structure Lrn where
  (at_ lo hi ppb le re : Int) (ok : Bool) (e : Int)
def Lrn.V (x : Lrn) : Value := V6 x.at_ x.lo x.hi x.ppb x.le x.re x.ok x.e
def lrn (at_ lo hi ppb le re u c d : Int) : Lrn :=
  if (nowT at_ lo hi ppb le re u).2.2 ≠ 0 then ⟨0, 0, 0, 0, 0, 0, false, (nowT at_ lo hi ppb le re u).2.2⟩ else if vS c d = false then ⟨0, 0, 0, 0, 0, 0, false, 3⟩ else
  if mtB (nowT at_ lo hi ppb le re u).1 (nowT at_ lo hi ppb le re u).2.1 c d then ⟨u, max (nowT at_ lo hi ppb le re u).1 c, min (nowT at_ lo hi ppb le re u).2.1 d, ppb, min (le + 1) 1152921504606846976, re, true, 0⟩
  else ⟨at_, lo, hi, ppb, le, min (re + 1) 1152921504606846976, false, 0⟩
section
variable {at_ lo hi ppb le re u c d x y : Int}
theorem lrn_e {e : Int} (h : nowT at_ lo hi ppb le re u = (x, y, e)) (he : e ≠ 0) : lrn at_ lo hi ppb le re u c d = ⟨0, 0, 0, 0, 0, 0, false, e⟩ := by unfold lrn; rw [h]; rw [if_pos he]
theorem lrn_3 (h : nowT at_ lo hi ppb le re u = (x, y, 0)) (h' : vS c d = false) : lrn at_ lo hi ppb le re u c d = ⟨0, 0, 0, 0, 0, 0, false, 3⟩ := by unfold lrn; rw [h]; rw [if_neg (by simp), if_pos h']
theorem lrn_yes (h : nowT at_ lo hi ppb le re u = (x, y, 0)) (h' : vS c d = true) (hm : mtB x y c d = true) : lrn at_ lo hi ppb le re u c d = ⟨u, max x c, min y d, ppb, min (le + 1) 1152921504606846976, re, true, 0⟩ := by
  unfold lrn; rw [h]; rw [if_neg (by simp), if_neg (by rw [h']; simp), if_pos hm]
theorem lrn_no (h : nowT at_ lo hi ppb le re u = (x, y, 0)) (h' : vS c d = true) (hm : mtB x y c d = false) : lrn at_ lo hi ppb le re u c d = ⟨at_, lo, hi, ppb, le, min (re + 1) 1152921504606846976, false, 0⟩ := by
  unfold lrn; rw [h]; rw [if_neg (by simp), if_neg (by rw [h']; simp), if_neg (by rw [hm]; simp)]
theorem now_0 (h : nowT at_ lo hi ppb le re u = (x, y, 0)) : kE at_ lo hi ppb le re = 0 := by
  by_cases q : kE at_ lo hi ppb le re = 0
  · exact q
  · rw [nowT_e q] at h; injection h with _ h; injection h with _ h
end

/-- What Begin returns. -/
def begV (at_ lo hi ppb : Int) : Value := if kE at_ lo hi ppb 0 0 = 0 then .tuple #[.agg #[.int .i64 at_, .int .i64 lo, .int .i64 hi, .int .i64 ppb, .int .i64 0, .int .i64 0], .int .i64 0] else .tuple #[.agg #[.int .i64 0, .int .i64 0, .int .i64 0, .int .i64 0, .int .i64 0, .int .i64 0], .int .i64 (kE at_ lo hi ppb 0 0)]
theorem begV_ok {at_ lo hi ppb : Int} (h : kE at_ lo hi ppb 0 0 = 0) : begV at_ lo hi ppb = .tuple #[.agg #[.int .i64 at_, .int .i64 lo, .int .i64 hi, .int .i64 ppb, .int .i64 0, .int .i64 0], .int .i64 0] := by unfold begV; rw [if_pos h]
theorem begV_e {at_ lo hi ppb : Int} (h : kE at_ lo hi ppb 0 0 ≠ 0) : begV at_ lo hi ppb = .tuple #[.agg #[.int .i64 0, .int .i64 0, .int .i64 0, .int .i64 0, .int .i64 0, .int .i64 0], .int .i64 (kE at_ lo hi ppb 0 0)] := by unfold begV; rw [if_neg h]
end Go.Proofs.YtlnboheahbfgfaaGreat
