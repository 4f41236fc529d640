/- Texts joined: SimP, Sim1, Sim1C -/
import Derived.Test.YtiinmhfolfgobaaGreatDoorJ21
import Derived.Test.YtiinmhfolfgobaaGreatDoorJ26
import Derived.Test.YtiinmhfolfgobaaGreatDoorJ24
import Derived.Test.YtiinmhfolfgobaaGreatDoorJ9
import Derived.Test.YtiinmhfolfgobaaGreatDoorJ25
import Derived.Test.YtiinmhfolfgobaaGreatDoorJ8
import Derived.Test.YtiinmhfolfgobaaGreatDoorJ11
namespace Go.Proofs.YtiinmhfolfgobaaGreatDoor
open Go.RowKit
set_option linter.unusedSimpArgs false
set_option linter.unusedVariables false

/-- A schedule. -/
structure Sch where
  (sta loc p li ai : Int) (es : List Int) (xs : List Stp)
def nearB (v : Int) : Bool := decide (-1125899906842624 ≤ v ∧ v ≤ 1125899906842624)
def lenB (v : Int) : Bool := decide (0 ≤ v ∧ v ≤ 1125899906842624)
theorem nearB_true {v : Int} : nearB v = true ↔ -1125899906842624 ≤ v ∧ v ≤ 1125899906842624 := by simp [nearB]
theorem lenB_true {v : Int} : lenB v = true ↔ 0 ≤ v ∧ v ≤ 1125899906842624 := by simp [lenB]
def Stp.ls (x : Stp) : List Int := [x.tr, x.lo, x.ou, x.ol, x.ho, x.hl, x.ba, x.bl]
def Stp.rg (n : Int) (x : Stp) : Bool := decide (0 ≤ x.src) && (decide (x.src < n) && (x.ls.all lenB && (nearB x.w2 && nearB x.w3)))
def Stp.ft (p : Int) (x : Stp) : Bool := fitsB x.tr x.lo p && (fitsB x.ou x.ol p && (fitsB x.ho x.hl p && fitsB x.ba x.bl p))
/-- The first error of a step. -/
def stpE (p n : Int) (x : Stp) : Int := if x.rg n then (if x.ft p then 0 else 28) else 4
def stpsE (p n : Int) : List Stp → Int
  | [] => 0
  | x :: xs => if stpE p n x = 0 then stpsE p n xs else stpE p n x
def Sch.rg (s : Sch) : Bool := nearB s.sta && (nearB s.loc && (decide (0 ≤ s.p) && (decide (s.p ≤ 1000000) && (decide (0 ≤ s.ai) && (decide (s.ai ≤ 1000) && (decide (0 ≤ s.li) && (decide (s.li ≤ s.es.length) && (decide (2 * s.li < s.es.length) && s.es.all lenB))))))))
/-- The first error of a schedule. -/
def chkE (s : Sch) : Int := if s.es.length < 1 ∨ 8 < s.es.length ∨ 64 < s.xs.length then 8 else if s.rg then stpsE s.p s.es.length s.xs else 4
/-- A clock that is shown. -/
structure Clk where
  (aim rate : Int) (set held : Bool) (at_ shown : Int)
def Clk.zero : Clk := ⟨0, 0, false, false, 0, 0⟩
def Clk.cs (c : Clk) : List Value := [.int .i64 c.aim, .int .i64 c.rate, .bool c.set, .bool c.held, .int .i64 c.at_, .int .i64 c.shown]
def readK (c : Clk) (t lo hi : Int) : Clk := if rdE c.aim c.rate c.set c.at_ c.shown t lo hi = 0 then ⟨c.aim, c.rate, true, rdHeld c.set c.shown hi, t, rdShown c.aim c.rate c.set c.at_ c.shown t lo hi⟩ else .zero
theorem readK_V (c : Clk) (t lo hi : Int) : rdV c.aim c.rate c.set c.at_ c.shown t lo hi = .agg (readK c t lo hi).cs.toArray := by
  unfold readK
  by_cases h : rdE c.aim c.rate c.set c.at_ c.shown t lo hi = 0
  · rw [rdV_ok h, if_pos h]; rfl
  · rw [rdV_err h, if_neg h]; rfl
/-- What At gives: a span and an error. -/
def atT (t1 t2 t3 t4 err p : Int) : Int × Int × Int := if exE t1 t2 t3 t4 err = 0 then (if inD (t4 - t1) p && vT (t3 - err) && vT (t2 + err + elHi (t4 - t1) p) then (if (t2 + err + elHi (t4 - t1) p) < (t3 - err) then (0, 0, 20) else (t3 - err, t2 + err + elHi (t4 - t1) p, 0)) else (0, 0, 4)) else (0, 0, exE t1 t2 t3 t4 err)
theorem atT_V (t1 t2 t3 t4 err p : Int) : atV t1 t2 t3 t4 err p = V3 (atT t1 t2 t3 t4 err p) := by
  unfold atV atT V3
  split
  · split
    · split <;> rfl
    · rfl
  · rfl
theorem atT_0 {t1 t2 t3 t4 err p x y : Int} (h : atT t1 t2 t3 t4 err p = (x, y, 0)) : exE t1 t2 t3 t4 err = 0 ∧ inD (t4 - t1) p = true ∧ x = t3 - err ∧ y = t2 + err + elHi (t4 - t1) p ∧ x ≤ y ∧ vT x = true ∧ vT y = true := by
  unfold atT at h
  split at h
  · rename_i h1
    split at h
    · rename_i h2
      split at h
      · injection h with _ h; injection h with _ h; omega
      · rename_i h3
        simp only [Bool.and_eq_true] at h2
        injection h with a b; injection b with b _
        exact ⟨h1, h2.1.1, a.symm, b.symm, by omega, by rw [← a]; exact h2.1.2, by rw [← b]; exact h2.2⟩
    · injection h with _ h; injection h with _ h; omega
  · rename_i h1
    injection h with _ h; injection h with _ h; exact absurd h h1
def lrnK (k : K6) (u c d : Int) : Lrn := lrn k.at_ k.lo k.hi k.pp k.le k.re u c d
def kOf (x : Lrn) : K6 := ⟨x.at_, x.lo, x.hi, x.ppb, x.le, x.re⟩
def begK (u lo hi p : Int) : K6 := if kE u lo hi p 0 0 = 0 then ⟨u, lo, hi, p, 0, 0⟩ else .zero
theorem begK_V (u lo hi p : Int) : begV u lo hi p = .tuple #[.agg (begK u lo hi p).cs.toArray, .int .i64 (kE u lo hi p 0 0)] := by
  unfold begV begK
  split
  · rename_i h; rw [h]; rfl
  · rfl
/-- What is known by a source, or by the client: whether there is something, and what. -/
abbrev Kw := Bool × K6
def takeK (k : Kw) (u lo hi p : Int) : Kw := if k.1 then (if (lrnK k.2 u lo hi).e = 0 then (true, kOf (lrnK k.2 u lo hi)) else k) else (true, begK u lo hi p)
def knowns (l : List Kw) : List K6 := (l.filter (·.1)).map (·.2)
theorem knowns_app (a b : List Kw) : knowns (a ++ b) = knowns a ++ knowns b := by unfold knowns; rw [List.filter_append, List.map_append]
theorem knowns_len (l : List Kw) : (knowns l).length ≤ l.length := by unfold knowns; rw [List.length_map]; exact List.length_filter_le _ _
/-- The state behind some steps: true time, the reading, what is known by the sources and by the client, and its clock. -/
structure Sim where
  (t u : Int) (by_ : List Kw) (own : Kw) (ck : Clk)
/-- What is reported. -/
structure Rep where
  (u t : Int) (some : Bool) (lo hi : Int) (ck : Clk)
def Rep.cs (r : Rep) : List Value := [.int .i64 r.u, .int .i64 r.t, .bool r.some, .int .i64 r.lo, .int .i64 r.hi] ++ r.ck.cs
def Rep.zero : Rep := ⟨0, 0, false, 0, 0, .zero⟩
def Sch.init (s : Sch) : Sim := ⟨s.sta, s.loc, List.replicate s.es.length (false, .zero), (false, .zero), ⟨s.ai, 1000000, false, false, 0, 0⟩⟩
/-- The exchange of a step. -/
def Sch.ask (s : Sch) (m : Sim) (x : Stp) : Int × Int × Int := atT (m.u + x.lo) (m.t + x.tr + x.ou + x.w2) (m.t + x.tr + x.ou + x.ho + x.w3) (m.u + x.lo + x.ol + x.hl + x.bl) (s.es.getD x.src.toNat 0) s.p
def tAft (m : Sim) (x : Stp) : Int := m.t + x.tr + x.ou + x.ho + x.ba
def uAft (m : Sim) (x : Stp) : Int := m.u + x.lo + x.ol + x.hl + x.bl
def Sch.hear (s : Sch) (m : Sim) (x : Stp) : List Kw := if (s.ask m x).2.2 = 0 then m.by_.set x.src.toNat (takeK (m.by_.getD x.src.toNat (false, .zero)) (uAft m x) (s.ask m x).1 (s.ask m x).2.1 s.p) else m.by_
def Sch.own (s : Sch) (m : Sim) (x : Stp) (a : Int × Int × Int) : Kw := if a.2.2 = 0 then takeK m.own (uAft m x) a.1 a.2.1 s.p else m.own
/-- The clock, and the report, of a client that knows k at the reading u. -/
def ckOf (k : Kw) (c : Clk) (u : Int) : Clk := if k.1 then readK c u (spK u k.2).1 (spK u k.2).2 else c
def repOf (k : Kw) (c : Clk) (u t : Int) : Rep := if k.1 then ⟨u, t, true, (spK u k.2).1, (spK u k.2).2, ckOf k c u⟩ else ⟨u, t, false, 0, 0, .zero⟩
def Sch.nxt (s : Sch) (m : Sim) (x : Stp) (a : Int × Int × Int) : Sim := ⟨tAft m x, uAft m x, s.hear m x, s.own m x a, ckOf (s.own m x a) m.ck (uAft m x)⟩
def Sch.rep (s : Sch) (m : Sim) (x : Stp) (a : Int × Int × Int) : Rep := repOf (s.own m x a) m.ck (uAft m x) (tAft m x)
/-- The state, and the reports, behind q steps. -/
def RunN (s : Sch) : Nat → Sim → List Rep → Prop
  | 0, m, rs => m = s.init ∧ rs = []
  | q + 1, m, rs => ∃ m0 rs0 a, RunN s q m0 rs0 ∧ MG (knowns (s.hear m0 (s.xs.getD q .zero))) (uAft m0 (s.xs.getD q .zero)) s.li a.1 a.2.1 a.2.2 ∧ m = s.nxt m0 (s.xs.getD q .zero) a ∧ rs = rs0 ++ [s.rep m0 (s.xs.getD q .zero) a]
theorem RunN.len {s : Sch} : ∀ {q : Nat} {m : Sim} {rs : List Rep}, RunN s q m rs → rs.length = q ∧ m.by_.length = s.es.length
  | 0, _, _, ⟨h1, h2⟩ => by subst h1; subst h2; exact ⟨rfl, by simp [Sch.init]⟩
  | q + 1, _, _, ⟨m0, r0, a, h1, h2, h3, h4⟩ => by
    obtain ⟨k1, k2⟩ := RunN.len h1
    subst h3; subst h4
    refine ⟨by simp [k1], ?_⟩
    show (s.hear m0 _).length = _
    unfold Sch.hear
    split
    · rw [List.length_set]; exact k2
    · exact k2
theorem stpsE_cons {p n : Int} {x : Stp} {xs : List Stp} : stpsE p n (x :: xs) = if stpE p n x = 0 then stpsE p n xs else stpE p n x := rfl
theorem stpsE_all {p n : Int} : ∀ {xs : List Stp}, stpsE p n xs = 0 → ∀ x ∈ xs, stpE p n x = 0
  | [], _, x, hx => by simp at hx
  | y :: ys, h, x, hx => by
    rw [stpsE_cons] at h
    by_cases hy : stpE p n y = 0
    · rw [if_pos hy] at h
      rcases List.mem_cons.1 hx with rfl | hx
      · exact hy
      · exact stpsE_all h x hx
    · rw [if_neg hy] at h; exact absurd h hy
end Go.Proofs.YtiinmhfolfgobaaGreatDoor
namespace Go.Proofs.YtiinmhfolfgobaaGreatDoor
open Go.RowKit
set_option linter.unusedSimpArgs false
set_option linter.unusedVariables false

/-- Numbers in memory. -/
def NsAt (w : World) (A : Option Addr) (len : Nat) (zs : List Int) : Prop := zs.length = len ∧ len ≤ 9223372036854775807 ∧ (0 < len → ∃ b off, A = some ⟨b, off, none⟩ ∧ b < w.heap.size ∧ ∀ j, j < len → w.cell? ⟨b, off + j, none⟩ = some (.int .i64 (zs.getD j 0)))
theorem NsAt.below {w w' : World} {A : Option Addr} {len : Nat} {zs : List Int} (h : NsAt w A len zs) (hb : Below w.heap.size w w') : NsAt w' A len zs := by
  obtain ⟨h1, h2, h3⟩ := h
  refine ⟨h1, h2, fun hl => ?_⟩
  obtain ⟨b, off, e, hlt, hc⟩ := h3 hl
  exact ⟨b, off, e, Nat.lt_of_lt_of_le hlt hb.size, fun j hj => cell_below hb (hc j hj)⟩
theorem NsAt.nums {w : World} {b : Nat} {A : Option Addr} {k : Nat} {es : List Int} (h : NumsAt w b A k es) (hk : k ≤ 9223372036854775807) : NsAt w A k es := by
  obtain ⟨hl, g, cur, e, hn, hB, hc⟩ := h
  exact ⟨hl, hk, fun _ => ⟨g, 0, e, hB.lt, fun j hj => by rw [Nat.zero_add, hB.cell]; exact hc j hj⟩⟩
/-- Steps in memory. -/
def StpsAt (w : World) (A : Option Addr) (len : Nat) (xs : List Stp) : Prop := xs.length = len ∧ len ≤ 9223372036854775807 ∧ (0 < len → ∃ b off, A = some ⟨b, off, none⟩ ∧ b < w.heap.size ∧ ∀ j, j < len → ∀ i, i < 11 → w.cell? ⟨b, off + j * 11 + i, none⟩ = (xs.getD j .zero).cs[i]?)
theorem StpsAt.below {w w' : World} {A : Option Addr} {len : Nat} {xs : List Stp} (h : StpsAt w A len xs) (hb : Below w.heap.size w w') : StpsAt w' A len xs := by
  obtain ⟨h1, h2, h3⟩ := h
  refine ⟨h1, h2, fun hl => ?_⟩
  obtain ⟨b, off, e, hlt, hc⟩ := h3 hl
  refine ⟨b, off, e, Nat.lt_of_lt_of_le hlt hb.size, fun j hj i hi => ?_⟩
  have := hc j hj i hi
  rw [List.getElem?_eq_getElem (show i < (xs.getD j .zero).cs.length from hi)] at this ⊢
  exact cell_below hb this
theorem StpsAt.steps {w : World} {b : Nat} {A : Option Addr} {xs : List Stp} (h : StepsAt w b A xs) (hk : xs.length ≤ 9223372036854775807) : StpsAt w A xs.length xs := by
  obtain ⟨g, cur, e, hn, hB, hc⟩ := h
  exact ⟨rfl, hk, fun _ => ⟨g, 0, e, hB.lt, fun j hj i hi => by rw [hB.cell, Nat.zero_add]; exact hc j hj i hi⟩⟩
theorem StpsAt.cells {w : World} {A : Option Addr} {len : Nat} {xs : List Stp} (h : StpsAt w A len xs) {q : Nat} (hq : q < len) : ∃ b off, A = some ⟨b, off, none⟩ ∧ b < w.heap.size ∧ w.cell? ⟨b, off + q * 11, none⟩ = some (.int .i64 (xs.getD q .zero).src) ∧ w.cell? ⟨b, off + q * 11 + 1, none⟩ = some (.int .i64 (xs.getD q .zero).tr) ∧ w.cell? ⟨b, off + q * 11 + 2, none⟩ = some (.int .i64 (xs.getD q .zero).lo) ∧ w.cell? ⟨b, off + q * 11 + 3, none⟩ = some (.int .i64 (xs.getD q .zero).ou) ∧ w.cell? ⟨b, off + q * 11 + 4, none⟩ = some (.int .i64 (xs.getD q .zero).ol) ∧ w.cell? ⟨b, off + q * 11 + 5, none⟩ = some (.int .i64 (xs.getD q .zero).ho) ∧ w.cell? ⟨b, off + q * 11 + 6, none⟩ = some (.int .i64 (xs.getD q .zero).hl) ∧ w.cell? ⟨b, off + q * 11 + 7, none⟩ = some (.int .i64 (xs.getD q .zero).ba) ∧ w.cell? ⟨b, off + q * 11 + 8, none⟩ = some (.int .i64 (xs.getD q .zero).bl) ∧ w.cell? ⟨b, off + q * 11 + 9, none⟩ = some (.int .i64 (xs.getD q .zero).w2) ∧ w.cell? ⟨b, off + q * 11 + 10, none⟩ = some (.int .i64 (xs.getD q .zero).w3) := by
  obtain ⟨-, -, h3⟩ := h
  obtain ⟨b, off, e, hlt, hc⟩ := h3 (by omega)
  exact ⟨b, off, e, hlt, hc q hq 0 (by omega), hc q hq 1 (by omega), hc q hq 2 (by omega), hc q hq 3 (by omega), hc q hq 4 (by omega), hc q hq 5 (by omega), hc q hq 6 (by omega), hc q hq 7 (by omega), hc q hq 8 (by omega), hc q hq 9 (by omega), hc q hq 10 (by omega)⟩
def SchAt (w : World) (s : Sch) (A SA : Option Addr) : Prop := NsAt w A s.es.length s.es ∧ StpsAt w SA s.xs.length s.xs
theorem SchAt.below {w w' : World} {s : Sch} {A SA : Option Addr} (h : SchAt w s A SA) (hb : Below w.heap.size w w') : SchAt w' s A SA := ⟨h.1.below hb, h.2.below hb⟩
end Go.Proofs.YtiinmhfolfgobaaGreatDoor
namespace Go.Proofs.YtiinmhfolfgobaaGreatDoor
open Go.RowKit
set_option linter.unusedSimpArgs false
set_option linter.unusedVariables false

end Go.Proofs.YtiinmhfolfgobaaGreatDoor
