/- Lemmas. -/
import Derived.Test.YtiinmhfolfgobaaGreatDoorJ20
import Derived.Test.YtiinmhfolfgobaaGreatDoorJ24
import Derived.Test.YtiinmhfolfgobaaGreatDoorJ23
import Derived.Test.YtiinmhfolfgobaaGreatDoorJ10
import Derived.Test.YtiinmhfolfgobaaGreatDoorJ9
import Derived.Test.YtiinmhfolfgobaaGreatDoorJ11
set_option linter.unusedVariables false
set_option linter.unusedSimpArgs false
namespace Go.Proofs.YtiinmhfolfgobaaGreatDoor
open Go.RowKit
structure Clk where
 (aim rate : Int) (set held : Bool) (at_ shown : Int)
def Clk.zero : Clk := ⟨0, 0, false, false, 0, 0⟩
def Clk.cs (c : Clk) : List Value := [.int .i64 c.aim, .int .i64 c.rate, .bool c.set, .bool c.held, .int .i64 c.at_, .int .i64 c.shown]
def readK (c : Clk) (t lo hi : Int) : Clk := if rdE c.aim c.rate c.set c.at_ c.shown t lo hi = 0 then ⟨c.aim, c.rate, true, rdHeld c.set c.shown hi, t, rdShown c.aim c.rate c.set c.at_ c.shown t lo hi⟩ else .zero
theorem readK_V (c : Clk) (t lo hi : Int) : rdV c.aim c.rate c.set c.at_ c.shown t lo hi = .agg (readK c t lo hi).cs.toArray := by
 unfold readK
 by_cases h : rdE c.aim c.rate c.set c.at_ c.shown t lo hi = 0
 ·rw [rdV_ok h, if_pos h]; rfl
 ·rw [rdV_err h, if_neg h]; rfl
def atT (t1 t2 t3 t4 err p : Int) : Int × Int × Int := if exE t1 t2 t3 t4 err = 0 then (if inD (t4 - t1) p && vT (t3 - err) && vT (t2 + err + elHi (t4 - t1) p) then (if (t2 + err + elHi (t4 - t1) p) < (t3 - err) then (0, 0, 20) else (t3 - err, t2 + err + elHi (t4 - t1) p, 0)) else (0, 0, 4)) else (0, 0, exE t1 t2 t3 t4 err)
theorem atT_V (t1 t2 t3 t4 err p : Int) : atV t1 t2 t3 t4 err p = V3 (atT t1 t2 t3 t4 err p) := by
 unfold atV atT V3
 split
 ·split
  ·split <;> rfl
  ·rfl
 ·rfl
def lrnK (k : K6) (u c d : Int) : Lrn := lrn k.at_ k.lo k.hi k.pp k.le k.re u c d
def kOf (x : Lrn) : K6 := ⟨x.at_, x.lo, x.hi, x.ppb, x.le, x.re⟩
def begK (u lo hi p : Int) : K6 := if kE u lo hi p 0 0 = 0 then ⟨u, lo, hi, p, 0, 0⟩ else .zero
theorem begK_V (u lo hi p : Int) : begV u lo hi p = .tuple #[.agg (begK u lo hi p).cs.toArray, .int .i64 (kE u lo hi p 0 0)] := by
 unfold begV begK
 split
 ·rename_i h; rw [h]; rfl
 ·rfl
abbrev Kw := Bool × K6
def knowns (l : List Kw) : List K6 := (l.filter (·.1)).map (·.2)
theorem knowns_app (a b : List Kw) : knowns (a ++ b) = knowns a ++ knowns b := by unfold knowns; rw [List.filter_append, List.map_append]
theorem knowns_len (l : List Kw) : (knowns l).length ≤ l.length := by unfold knowns; rw [List.length_map]; exact List.length_filter_le _ _
end Go.Proofs.YtiinmhfolfgobaaGreatDoor
