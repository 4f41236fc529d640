/- Texts joined: SimP, Sim1, Sim1C -/
import Derived.Test.YtlnboheahbfgfaaGreatJ25
import Derived.Test.YtlnboheahbfgfaaGreatJ31
import Derived.Test.YtlnboheahbfgfaaGreatJ29
import Derived.Test.YtlnboheahbfgfaaGreatKitG
import Derived.Test.YtlnboheahbfgfaaGreatJ30
import Derived.Test.YtlnboheahbfgfaaGreatJ17
import Derived.Test.YtlnboheahbfgfaaGreatJ5
namespace Go.Proofs.YtlnboheahbfgfaaGreat
open Go.RowKit
set_option linter.unusedSimpArgs false
set_option linter.unusedVariables false

structure Sch where
 (sta loc p li ai : Int) (es : List Int) (xs : List Stp)
def nearB (v : Int) : Bool := decide (-1125899906842624 ≤ v ∧ v ≤ 1125899906842624)
def lenB (v : Int) : Bool := decide (0 ≤ v ∧ v ≤ 1125899906842624)
theorem nearB_true {v : Int} : nearB v = true ↔ -1125899906842624 ≤ v ∧ v ≤ 1125899906842624 := by simp [nearB]
theorem lenB_true {v : Int} : lenB v = true ↔ 0 ≤ v ∧ v ≤ 1125899906842624 := by simp [lenB]
theorem lenB_false {v : Int} : lenB v = false ↔ ¬ (0 ≤ v ∧ v ≤ 1125899906842624) := by simp [lenB]
theorem nearB_false {v : Int} : nearB v = false ↔ ¬ (-1125899906842624 ≤ v ∧ v ≤ 1125899906842624) := by simp [nearB]
def Stp.ls (x : Stp) : List Int := [x.tr, x.lo, x.ou, x.ol, x.ho, x.hl, x.ba, x.bl]
def Stp.rg (n : Int) (x : Stp) : Bool := decide (0 ≤ x.src) && (decide (x.src < n) && (x.ls.all lenB && (nearB x.w2 && nearB x.w3)))
def Stp.ft (p : Int) (x : Stp) : Bool := fitsB x.tr x.lo p && (fitsB x.ou x.ol p && (fitsB x.ho x.hl p && fitsB x.ba x.bl p))
def stpE (p n : Int) (x : Stp) : Int := if x.rg n then (if x.ft p then 0 else 28) else 4
def stpsE (p n : Int) : List Stp → Int
 | [] => 0
 | x :: xs => if stpE p n x = 0 then stpsE p n xs else stpE p n x
def Sch.rg (s : Sch) : Bool := nearB s.sta && (nearB s.loc && (decide (0 ≤ s.p) && (decide (s.p ≤ 1000000) && (decide (0 ≤ s.ai) && (decide (s.ai ≤ 1000) && (decide (0 ≤ s.li) && (decide (s.li ≤ s.es.length) && (decide (2 * s.li < s.es.length) && s.es.all lenB))))))))
def chkE (s : Sch) : Int := if s.es.length < 1 ∨ 8 < s.es.length ∨ 64 < s.xs.length then 8 else if s.rg then stpsE s.p s.es.length s.xs else 4
structure Clk where
 (aim rate : Int) (set held : Bool) (at_ shown : Int)
def Clk.zero : Clk := ⟨0, 0, false, false, 0, 0⟩
def Clk.cs (c : Clk) : List Value := [.int .i64 c.aim, .int .i64 c.rate, .bool c.set, .bool c.held, .int .i64 c.at_, .int .i64 c.shown]
def readK (c : Clk) (t lo hi : Int) : Clk := if rdE c.aim c.rate c.set c.at_ c.shown t lo hi = 0 then ⟨c.aim, c.rate, true, rdHeld c.set c.shown hi, t, rdShown c.aim c.rate c.set c.at_ c.shown t lo hi⟩ else .zero
theorem readK_V (c : Clk) (t lo hi : Int) : rdV c.aim c.rate c.set c.at_ c.shown t lo hi = .agg (readK c t lo hi).cs.toArray := by
 unfold readK
 by_cases h : rdE c.aim c.rate c.set c.at_ c.shown t lo hi = 0
 ·rw [rdV_ok h, if_pos h]; rfl
 ·rw [rdV_err h, if_neg h]; rfl
def atT (t1 t2 t3 t4 err p : Int) : Int × Int × Int := if exE t1 t2 t3 t4 err = 0 then (if inD (t4 - t1) p && vT (t3 - err) && vT (t2 + err + elHi (t4 - t1) p) then (if (t2 + err + elHi (t4 - t1) p) < (t3 - err) then (0, 0, 20) else (t3 - err, t2 + err + elHi (t4 - t1) p, 0)) else (0, 0, 4)) else (0, 0, exE t1 t2 t3 t4 err)
theorem atT_V (t1 t2 t3 t4 err p : Int) : atV t1 t2 t3 t4 err p = V3 (atT t1 t2 t3 t4 err p) := by
 unfold atV atT V3
 split
 ·split
  ·split <;> rfl
  ·rfl
 ·rfl
theorem atT_0 {t1 t2 t3 t4 err p x y : Int} (h : atT t1 t2 t3 t4 err p = (x, y, 0)) : exE t1 t2 t3 t4 err = 0 ∧ inD (t4 - t1) p = true ∧ x = t3 - err ∧ y = t2 + err + elHi (t4 - t1) p ∧ x ≤ y ∧ vT x = true ∧ vT y = true := by
 unfold atT at h
 split at h
 ·rename_i h1
  split at h
  ·rename_i h2
   split at h
   ·injection h with _ h; injection h with _ h; omega
   ·rename_i h3
    simp only [Bool.and_eq_true] at h2
    injection h with a b; injection b with b _
    exact ⟨h1, h2.1.1, a.symm, b.symm, by omega, by rw [← a]; exact h2.1.2, by rw [← b]; exact h2.2⟩
  ·injection h with _ h; injection h with _ h; omega
 ·rename_i h1
  injection h with _ h; injection h with _ h; exact absurd h h1
def lrnK (k : K6) (u c d : Int) : Lrn := lrn k.at_ k.lo k.hi k.pp k.le k.re u c d
def kOf (x : Lrn) : K6 := ⟨x.at_, x.lo, x.hi, x.ppb, x.le, x.re⟩
def begK (u lo hi p : Int) : K6 := if kE u lo hi p 0 0 = 0 then ⟨u, lo, hi, p, 0, 0⟩ else .zero
theorem begK_V (u lo hi p : Int) : begV u lo hi p = .tuple #[.agg (begK u lo hi p).cs.toArray, .int .i64 (kE u lo hi p 0 0)] := by
 unfold begV begK
 split
 ·rename_i h; rw [h]; rfl
 ·rfl
abbrev Kw := Bool × K6
def takeK (k : Kw) (u lo hi p : Int) : Kw := if k.1 then (if (lrnK k.2 u lo hi).e = 0 then (true, kOf (lrnK k.2 u lo hi)) else k) else (true, begK u lo hi p)
def knowns (l : List Kw) : List K6 := (l.filter (·.1)).map (·.2)
theorem knowns_app (a b : List Kw) : knowns (a ++ b) = knowns a ++ knowns b := by unfold knowns; rw [List.filter_append, List.map_append]
theorem knowns_len (l : List Kw) : (knowns l).length ≤ l.length := by unfold knowns; rw [List.length_map]; exact List.length_filter_le _ _
structure Sim where
 (t u : Int) (by_ : List Kw) (own : Kw) (ck : Clk)
structure Rep where
 (u t : Int) (some : Bool) (lo hi : Int) (ck : Clk)
def Rep.cs (r : Rep) : List Value := [.int .i64 r.u, .int .i64 r.t, .bool r.some, .int .i64 r.lo, .int .i64 r.hi] ++ r.ck.cs
def Rep.zero : Rep := ⟨0, 0, false, 0, 0, .zero⟩
def Sch.init (s : Sch) : Sim := ⟨s.sta, s.loc, List.replicate s.es.length (false, .zero), (false, .zero), ⟨s.ai, 1000000, false, false, 0, 0⟩⟩
def Sch.ask (s : Sch) (m : Sim) (x : Stp) : Int × Int × Int := atT (m.u + x.lo) (m.t + x.tr + x.ou + x.w2) (m.t + x.tr + x.ou + x.ho + x.w3) (m.u + x.lo + x.ol + x.hl + x.bl) (s.es.getD x.src.toNat 0) s.p
def tAft (m : Sim) (x : Stp) : Int := m.t + x.tr + x.ou + x.ho + x.ba
def uAft (m : Sim) (x : Stp) : Int := m.u + x.lo + x.ol + x.hl + x.bl
def Sch.hear (s : Sch) (m : Sim) (x : Stp) : List Kw := if (s.ask m x).2.2 = 0 then m.by_.set x.src.toNat (takeK (m.by_.getD x.src.toNat (false, .zero)) (uAft m x) (s.ask m x).1 (s.ask m x).2.1 s.p) else m.by_
def Sch.own (s : Sch) (m : Sim) (x : Stp) (a : Int × Int × Int) : Kw := if a.2.2 = 0 then takeK m.own (uAft m x) a.1 a.2.1 s.p else m.own
def ckOf (k : Kw) (c : Clk) (u : Int) : Clk := if k.1 then readK c u (spK u k.2).1 (spK u k.2).2 else c
def repOf (k : Kw) (c : Clk) (u t : Int) : Rep := if k.1 then ⟨u, t, true, (spK u k.2).1, (spK u k.2).2, ckOf k c u⟩ else ⟨u, t, false, 0, 0, .zero⟩
def Sch.nxt (s : Sch) (m : Sim) (x : Stp) (a : Int × Int × Int) : Sim := ⟨tAft m x, uAft m x, s.hear m x, s.own m x a, ckOf (s.own m x a) m.ck (uAft m x)⟩
def Sch.rep (s : Sch) (m : Sim) (x : Stp) (a : Int × Int × Int) : Rep := repOf (s.own m x a) m.ck (uAft m x) (tAft m x)
def RunN (s : Sch) : Nat → Sim → List Rep → Prop
 | 0, m, rs => m = s.init ∧ rs = []
 | q + 1, m, rs => ∃ m0 rs0 a, RunN s q m0 rs0 ∧ MG (knowns (s.hear m0 (s.xs.getD q .zero))) (uAft m0 (s.xs.getD q .zero)) s.li a.1 a.2.1 a.2.2 ∧ m = s.nxt m0 (s.xs.getD q .zero) a ∧ rs = rs0 ++ [s.rep m0 (s.xs.getD q .zero) a]
theorem RunN.uniq {s : Sch} : ∀ {q : Nat} {m m' : Sim} {rs rs' : List Rep}, RunN s q m rs → RunN s q m' rs' → m = m' ∧ rs = rs'
 | 0, _, _, _, _, ⟨h1, h2⟩, ⟨k1, k2⟩ => ⟨h1.trans k1.symm, h2.trans k2.symm⟩
 | q + 1, _, _, _, _, ⟨m0, r0, a, h1, h2, h3, h4⟩, ⟨m1, r1, b, k1, k2, k3, k4⟩ => by
  obtain ⟨rfl, rfl⟩ := RunN.uniq h1 k1
  obtain ⟨e1, e2, e3⟩ := MG_uniq h2 k2
  obtain rfl : a = b := Prod.ext e1 (Prod.ext e2 e3)
  exact ⟨h3.trans k3.symm, h4.trans k4.symm⟩
theorem RunN.len {s : Sch} : ∀ {q : Nat} {m : Sim} {rs : List Rep}, RunN s q m rs → rs.length = q ∧ m.by_.length = s.es.length
 | 0, _, _, ⟨h1, h2⟩ => by subst h1; subst h2; exact ⟨rfl, by simp [Sch.init]⟩
 | q + 1, _, _, ⟨m0, r0, a, h1, h2, h3, h4⟩ => by
  obtain ⟨k1, k2⟩ := RunN.len h1
  subst h3; subst h4
  refine ⟨by simp [k1], ?_⟩
  show (s.hear m0 _).length = _
  unfold Sch.hear
  split
  ·rw [List.length_set]; exact k2
  ·exact k2
theorem stpsE_cons {p n : Int} {x : Stp} {xs : List Stp} : stpsE p n (x :: xs) = if stpE p n x = 0 then stpsE p n xs else stpE p n x := rfl
theorem stpsE_all {p n : Int} : ∀ {xs : List Stp}, stpsE p n xs = 0 → ∀ x ∈ xs, stpE p n x = 0
 | [], _, x, hx => by simp at hx
 | y :: ys, h, x, hx => by
  rw [stpsE_cons] at h
  by_cases hy : stpE p n y = 0
  ·rw [if_pos hy] at h
   rcases List.mem_cons.1 hx with rfl | hx
   ·exact hy
   ·exact stpsE_all h x hx
  ·rw [if_neg hy] at h; exact absurd h hy
theorem stpsE_none {p n : Int} : ∀ {xs : List Stp}, (∀ x ∈ xs, stpE p n x = 0) → stpsE p n xs = 0
 | [], _ => rfl
 | y :: ys, h => by rw [stpsE_cons, if_pos (h y (by simp))]; exact stpsE_none (fun x hx => h x (by simp [hx]))
theorem stpsE_first {p n : Int} : ∀ {xs : List Stp} {q : Nat}, q < xs.length → (∀ j, j < q → stpE p n (xs.getD j .zero) = 0) → stpE p n (xs.getD q .zero) ≠ 0 → stpsE p n xs = stpE p n (xs.getD q .zero)
 | [], q, h, _, _ => by simp at h
 | y :: ys, 0, _, _, h => by rw [stpsE_cons, if_neg (by simpa using h)]; simp
 | y :: ys, q + 1, hq, hj, h => by
  rw [stpsE_cons, if_pos (by have := hj 0 (by omega); simpa using this)]
  have := stpsE_first (xs := ys) (q := q) (by simpa using hq) (fun j hjq => by have := hj (j + 1) (by omega); simpa using this) (by simpa using h)
  simpa using this
end Go.Proofs.YtlnboheahbfgfaaGreat
namespace Go.Proofs.YtlnboheahbfgfaaGreat
open Go.RowKit
set_option linter.unusedSimpArgs false
set_option linter.unusedVariables false

def NsAt (w : World) (A : Option Addr) (len : Nat) (zs : List Int) : Prop := zs.length = len ∧ len ≤ 9223372036854775807 ∧ (0 < len → ∃ b off, A = some ⟨b, off, none⟩ ∧ b < w.heap.size ∧ ∀ j, j < len → w.cell? ⟨b, off + j, none⟩ = some (.int .i64 (zs.getD j 0)))
theorem NsAt.below {w w' : World} {A : Option Addr} {len : Nat} {zs : List Int} (h : NsAt w A len zs) (hb : Below w.heap.size w w') : NsAt w' A len zs := by
 obtain ⟨h1, h2, h3⟩ := h
 refine ⟨h1, h2, fun hl => ?_⟩
 obtain ⟨b, off, e, hlt, hc⟩ := h3 hl
 exact ⟨b, off, e, Nat.lt_of_lt_of_le hlt hb.size, fun j hj => cell_below hb (hc j hj)⟩
theorem NsAt.ints {w : World} {A : Option Addr} {len : Nat} {zs : List Int} (h : IntsAt w A len zs) : NsAt w A len zs := ⟨h.1, h.2.1, h.2.2.2⟩
def StpsAt (w : World) (A : Option Addr) (len : Nat) (xs : List Stp) : Prop := xs.length = len ∧ len ≤ 9223372036854775807 ∧ (0 < len → ∃ b off, A = some ⟨b, off, none⟩ ∧ b < w.heap.size ∧ ∀ j, j < len → ∀ i, i < 11 → w.cell? ⟨b, off + j * 11 + i, none⟩ = (xs.getD j .zero).cs[i]?)
theorem StpsAt.below {w w' : World} {A : Option Addr} {len : Nat} {xs : List Stp} (h : StpsAt w A len xs) (hb : Below w.heap.size w w') : StpsAt w' A len xs := by
 obtain ⟨h1, h2, h3⟩ := h
 refine ⟨h1, h2, fun hl => ?_⟩
 obtain ⟨b, off, e, hlt, hc⟩ := h3 hl
 refine ⟨b, off, e, Nat.lt_of_lt_of_le hlt hb.size, fun j hj i hi => ?_⟩
 have := hc j hj i hi
 rw [List.getElem?_eq_getElem (show i < (xs.getD j .zero).cs.length from hi)] at this ⊢
 exact cell_below hb this
theorem StpsAt.steps {w : World} {b : Nat} {A : Option Addr} {xs : List Stp} (h : StepsAt w b A xs) (hk : xs.length ≤ 9223372036854775807) : StpsAt w A xs.length xs := by
 obtain ⟨g, cur, e, hn, hB, hc⟩ := h
 exact ⟨rfl, hk, fun _ => ⟨g, 0, e, hB.lt, fun j hj i hi => by rw [hB.cell, Nat.zero_add]; exact hc j hj i hi⟩⟩
theorem StpsAt.cells {w : World} {A : Option Addr} {len : Nat} {xs : List Stp} (h : StpsAt w A len xs) {q : Nat} (hq : q < len) : ∃ b off, A = some ⟨b, off, none⟩ ∧ b < w.heap.size ∧ w.cell? ⟨b, off + q * 11, none⟩ = some (.int .i64 (xs.getD q .zero).src) ∧ w.cell? ⟨b, off + q * 11 + 1, none⟩ = some (.int .i64 (xs.getD q .zero).tr) ∧ w.cell? ⟨b, off + q * 11 + 2, none⟩ = some (.int .i64 (xs.getD q .zero).lo) ∧ w.cell? ⟨b, off + q * 11 + 3, none⟩ = some (.int .i64 (xs.getD q .zero).ou) ∧ w.cell? ⟨b, off + q * 11 + 4, none⟩ = some (.int .i64 (xs.getD q .zero).ol) ∧ w.cell? ⟨b, off + q * 11 + 5, none⟩ = some (.int .i64 (xs.getD q .zero).ho) ∧ w.cell? ⟨b, off + q * 11 + 6, none⟩ = some (.int .i64 (xs.getD q .zero).hl) ∧ w.cell? ⟨b, off + q * 11 + 7, none⟩ = some (.int .i64 (xs.getD q .zero).ba) ∧ w.cell? ⟨b, off + q * 11 + 8, none⟩ = some (.int .i64 (xs.getD q .zero).bl) ∧ w.cell? ⟨b, off + q * 11 + 9, none⟩ = some (.int .i64 (xs.getD q .zero).w2) ∧ w.cell? ⟨b, off + q * 11 + 10, none⟩ = some (.int .i64 (xs.getD q .zero).w3) := by
 obtain ⟨-, -, h3⟩ := h
 obtain ⟨b, off, e, hlt, hc⟩ := h3 (by omega)
 exact ⟨b, off, e, hlt, hc q hq 0 (by omega), hc q hq 1 (by omega), hc q hq 2 (by omega), hc q hq 3 (by omega), hc q hq 4 (by omega), hc q hq 5 (by omega), hc q hq 6 (by omega), hc q hq 7 (by omega), hc q hq 8 (by omega), hc q hq 9 (by omega), hc q hq 10 (by omega)⟩
def SchAt (w : World) (s : Sch) (A SA : Option Addr) : Prop := NsAt w A s.es.length s.es ∧ StpsAt w SA s.xs.length s.xs
theorem SchAt.below {w w' : World} {s : Sch} {A SA : Option Addr} (h : SchAt w s A SA) (hb : Below w.heap.size w w') : SchAt w' s A SA := ⟨h.1.below hb, h.2.below hb⟩
theorem ns8 {w : World} {g : Nat} {a b c d e f h i : Int} {t : TypeId} (hB : Blk w g t #[.int .i64 a, .int .i64 b, .int .i64 c, .int .i64 d, .int .i64 e, .int .i64 f, .int .i64 h, .int .i64 i]) : NsAt w (some ⟨g, 0, none⟩) 8 [a, b, c, d, e, f, h, i] := by
 refine ⟨rfl, by omega, fun _ => ⟨g, 0, rfl, hB.lt, fun j hj => ?_⟩⟩
 rw [Nat.zero_add, hB.cell]
 obtain rfl | rfl | rfl | rfl | rfl | rfl | rfl | rfl : j = 0 ∨ j = 1 ∨ j = 2 ∨ j = 3 ∨ j = 4 ∨ j = 5 ∨ j = 6 ∨ j = 7 := by omega
 all_goals rfl
def anyI (p : Int → Bool) (zs : List Int) : Bool := zs.any p
theorem anyI_false {p : Int → Bool} {zs : List Int} : anyI p zs = false ↔ ∀ j, j < zs.length → p (zs.getD j 0) = false := by
 unfold anyI
 rw [List.any_eq_false]
 constructor
 ·intro h j hj
  have := h (zs.getD j 0) (by rw [List.getD_eq_getElem?_getD, List.getElem?_eq_getElem hj]; simp)
  simpa using this
 ·intro h z hz
  obtain ⟨j, hj, rfl⟩ := List.getElem_of_mem hz
  have := h j hj
  rw [List.getD_eq_getElem?_getD, List.getElem?_eq_getElem hj] at this
  simpa using this
def IdxIRel (w : World) (p : Int → Bool) (zs : List Int) (len : Nat) (G : Nat) (i : Value) (wr : World) : Prop := ∃ q : Nat, q ≤ len ∧ G = len - q ∧ i = .int .i64 q ∧ (∀ j, j < q → p (zs.getD j 0) = false) ∧ Below w.heap.size w wr
set_option maxHeartbeats 2000000 in
theorem idxI (k : FuncId) (ek : ∀ args w, (callFunc k args).run Tryz.prog w = .ok (.enter k args) w) (p : Int → Bool) (hk : ∀ v w, Calls Tryz.prog k #[.int .i64 v] w (RB w (.bool (p v)))) (A : Option Addr) (len cap : Nat) (zs : List Int) (w : World) (h : NsAt w A len zs) :
  Calls Tryz.prog 135 #[.slice A len cap, .func (.func k) #[] #[]] w (IdxR w (anyI p zs)) := by
 have HK := hYd hk; clear hk
 have H := hYd h
 have hl := h.2.1
 have hz := h.1
 clear h
 go_enter Tryz.func135, Tryz.ntmps135
 go_wp2
 go_loopg [8] len (fun G i wr => IdxIRel w p zs len G i wr)
 case atStart => exact ⟨0, by omega, by omega, rfl, by omega, Below.refl _ _⟩
 case round =>
  obtain ⟨q, hq, rfl, rfl, hall, hbel⟩ := hrel
  have HA := hYd hall; clear hall
  by_cases hlt : q < len
  ·obtain ⟨b, off, rfl, hb, hc⟩ := H.out.2.2 (by omega)
   have c0 := hc q hlt
   have c0 := (hbel.cell (p := ⟨b, off + q, none⟩) hb).trans c0
   clear hc
   generalize hzz : zs.getD q 0 = z at c0
   have HZ := hYd hzz; clear hzz
   have r := HK.out z
   rcases hp : p z
   ·rw [hp] at r
    have R := hYd r; clear r
    go_wp2_with fail
    refine (R.out _).mono ?_
    rintro e w1 ⟨rfl, hb1⟩
    have K1 := kept_call hb1 hbel
    go_wp2
    go_roundg (len - (q + 1))
    case measure => omega
    case rel =>
     refine ⟨q + 1, by omega, by omega, by go_num, fun j hj => ?_, K1⟩
     by_cases e : j = q
     ·subst e; rw [HZ.out]; exact hp
     ·exact HA.out j (by omega)
   ·rw [hp] at r
    have R := hYd r; clear r
    go_wp2_with fail
    refine (R.out _).mono ?_
    rintro e w1 ⟨rfl, hb1⟩
    have K1 := kept_call hb1 hbel
    go_wp2
    go_ret
    refine IdxR.mk ?_ K1
    rcases ha : anyI p zs
    ·have := anyI_false.1 ha q (by omega)
     rw [HZ.out] at this; rw [this] at hp; cases hp
    ·simp
  ·obtain rfl : q = len := by omega
   go_wp2
   go_ret
   refine IdxR.mk ?_ hbel
   rw [anyI_false.2 (fun j hj => HA.out j (by omega))]
   rfl
set_option maxHeartbeats 1000000 in
theorem contI (k : FuncId) (ek : ∀ args w, (callFunc k args).run Tryz.prog w = .ok (.enter k args) w) (p : Int → Bool) (hk : ∀ v w, Calls Tryz.prog k #[.int .i64 v] w (RB w (.bool (p v)))) (A : Option Addr) (len cap : Nat) (zs : List Int) (w : World) (h : NsAt w A len zs) :
  Calls Tryz.prog 107 #[.slice A len cap, .func (.func k) #[] #[]] w (RB w (.bool (anyI p zs))) := by
 have R := hYd (idxI k ek p hk A len cap zs w h); clear hk h
 go_enter Tryz.func107, Tryz.ntmps107
 go_wp2_with fail
 refine R.out.mono ?_
 rintro e w1 ⟨v, rfl, hv, hb⟩
 rw [← hv]
 go_wp2
 go_ret
 exact ⟨rfl, hb⟩
set_option maxHeartbeats 1000000 in
theorem near_any (v : Int) (w : World) :
  Calls Tryz.prog 69 #[.int .i64 v] w (RB w (.bool (nearB v))) := by
 by_cases h : -1125899906842624 ≤ v
 ·have g : decide (-1125899906842624 ≤ v) = true := decide_eq_true h
  by_cases h2 : v ≤ 1125899906842624
  ·have g2 : decide (v ≤ 1125899906842624) = true := decide_eq_true h2
   rw [nearB_true.2 ⟨h, h2⟩]
   go_enter Tryz.func69, Tryz.ntmps69
   go_wp2
   go_ret
   exact ⟨rfl, bl0⟩
  ·have g2 : decide (v ≤ 1125899906842624) = false := decide_eq_false h2
   rw [nearB_false.2 (fun k => h2 k.2)]
   go_enter Tryz.func69, Tryz.ntmps69
   go_wp2
   go_ret
   exact ⟨rfl, bl0⟩
 ·have g : decide (-1125899906842624 ≤ v) = false := decide_eq_false h
  rw [nearB_false.2 (fun k => h k.1)]
  go_enter Tryz.func69, Tryz.ntmps69
  go_wp2
  go_ret
  exact ⟨rfl, bl0⟩
set_option maxHeartbeats 1000000 in
theorem len1_any (v : Int) (w : World) :
  Calls Tryz.prog 108 #[.int .i64 v] w (RB w (.bool (!lenB v))) := by
 by_cases h : v < 0
 ·have g : decide (v < 0) = true := decide_eq_true h
  rw [lenB_false.2 (fun k => by omega)]
  go_enter Tryz.func108, Tryz.ntmps108
  go_wp2
  go_ret
  exact ⟨rfl, bl0⟩
 ·have g : decide (v < 0) = false := decide_eq_false h
  by_cases h2 : 1125899906842624 < v
  ·have g2 : decide (1125899906842624 < v) = true := decide_eq_true h2
   rw [lenB_false.2 (fun k => by omega)]
   go_enter Tryz.func108, Tryz.ntmps108
   go_wp2
   go_ret
   exact ⟨rfl, bl0⟩
  ·have g2 : decide (1125899906842624 < v) = false := decide_eq_false h2
   rw [lenB_true.2 (by omega)]
   go_enter Tryz.func108, Tryz.ntmps108
   go_wp2
   go_ret
   exact ⟨rfl, bl0⟩
theorem any_not {zs : List Int} : (!anyI (fun v => !lenB v) zs) = zs.all lenB := by
 unfold anyI
 rw [List.not_any_eq_all_not]
 simp
set_option maxHeartbeats 1000000 in
theorem lens_any (A : Option Addr) (len cap : Nat) (zs : List Int) (w : World) (h : NsAt w A len zs) :
  Calls Tryz.prog 70 #[.slice A len cap] w (RB w (.bool (zs.all lenB))) := by
 have R := hYd (contI 108 (enters_of Tryz.func108 (by kernel_rfl) rfl) (fun v => !lenB v) len1_any A len cap zs w h); clear h
 rw [← any_not]
 go_enter Tryz.func70, Tryz.ntmps70
 go_wp2_with fail
 refine (R.out).mono ?_
 rintro e w1 ⟨rfl, hb1⟩
 have K1 : Below w.heap.size w w1 := kept_call hb1 bl0
 have Z1 := K1.size
 clear hb1
 go_wp2
 go_ret
 exact ⟨rfl, bl1⟩
set_option maxRecDepth 100000 in
set_option maxHeartbeats 2000000 in
theorem istep_any (s : Sch) (A SA : Option Addr) (c sc : Nat) (x : Stp) (w : World) :
  Calls Tryz.prog 71 #[.agg #[.int .i64 s.sta, .int .i64 s.loc, .int .i64 s.p, .int .i64 s.li, .int .i64 s.ai, .slice A s.es.length c, .slice SA s.xs.length sc], .agg #[.int .i64 x.src, .int .i64 x.tr, .int .i64 x.lo, .int .i64 x.ou, .int .i64 x.ol, .int .i64 x.ho, .int .i64 x.hl, .int .i64 x.ba, .int .i64 x.bl, .int .i64 x.w2, .int .i64 x.w3]] w (RB w (.int .i64 (stpE s.p s.es.length x))) := by
 obtain ⟨sta, loc, p, li, ai, es, xs⟩ := s
 obtain ⟨src, tr, lo, ou, ol, ho, hl, ba, bl, w2', w3'⟩ := x
 dsimp only
 obtain ⟨n, hn⟩ : ∃ n, n = es.length := ⟨_, rfl⟩
 obtain ⟨m, hm⟩ : ∃ m, m = xs.length := ⟨_, rfl⟩
 simp only [← hn, ← hm]
 clear hn hm
 have e0 : ∀ y : Stp, y.rg n = false → stpE p n y = 4 := fun y h => by unfold stpE; rw [h]; rfl
 by_cases h1 : src < 0
 ·have g1 : decide (src < 0) = true := decide_eq_true h1
  rw [e0 _ (by have : decide (0 ≤ src) = false := decide_eq_false (by omega); simp [Stp.rg, this])]
  clear e0
  go_enter Tryz.func71, Tryz.ntmps71
  go_wp2
  exact bodyPost_ret (v := .int .i64 4) (by simp [results, Tryz.results71, go_sem, *]) rfl ⟨rfl, bl0⟩
 have g1 : decide (src < 0) = false := decide_eq_false h1
 by_cases h2 : (n : Int) ≤ src
 ·have g2 : decide ((n : Int) ≤ src) = true := decide_eq_true h2
  rw [e0 _ (by have : decide (src < (n : Int)) = false := decide_eq_false (by omega); simp [Stp.rg, this])]
  clear e0
  go_enter Tryz.func71, Tryz.ntmps71
  go_wp2
  exact bodyPost_ret (v := .int .i64 4) (by simp [results, Tryz.results71, go_sem, *]) rfl ⟨rfl, bl0⟩
 have g2 : decide ((n : Int) ≤ src) = false := decide_eq_false h2
 have rl := fun A c W h => lens_any A 8 c [tr, lo, ou, ol, ho, hl, ba, bl] W h
 rcases hl1 : [tr, lo, ou, ol, ho, hl, ba, bl].all lenB
 ·rw [e0 _ (by simp only [Stp.rg, Stp.ls, hl1]; simp)]
  clear e0
  simp only [hl1] at rl
  have RL := hYd rl; clear rl hl1
  go_enter Tryz.func71, Tryz.ntmps71
  go_wp2_with fail
  refine (RL.out _ _ _ (ns8 (by first | exact Blk.new2 _ _ _ _ _ | exact Blk.newE (by simp)))).mono ?_
  rintro e w1 ⟨rfl, hb1⟩
  have K1 : Below w.heap.size w w1 := kept_call hb1 bl0
  have Z1 := K1.size
  have b1_0 := Blk.keep (g := w.heap.size) hb1 bn0
  (try simp only [lst, ls0, ls1] at b1_0)
  have b1_1 := Blk.keep (g := w.heap.size + 1) hb1 bn0
  (try simp only [lst, ls0, ls1] at b1_1)
  have b1_2 := Blk.keep (g := w.heap.size + 2) hb1 bn0
  (try simp only [lst, ls0, ls1] at b1_2)
  clear hb1
  obtain ⟨c1_0, f1_0, l1_0, e1_0, k1_0⟩ := Blk.facts b1_0
  obtain ⟨c1_1, f1_1, l1_1, e1_1, k1_1⟩ := Blk.facts b1_1
  obtain ⟨c1_2, f1_2, l1_2, e1_2, k1_2⟩ := Blk.facts b1_2
  have o1_0 := l1_0
  have o1_1 := l1_1
  have o1_2 := l1_2
  go_wp2
  exact bodyPost_ret (v := .int .i64 4) (by simp [results, Tryz.results71, go_sem, *]) rfl ⟨rfl, bl1⟩
 have hl0 := hl1
 simp only [hl1] at rl
 have RL := hYd rl; clear rl
 rcases hl2 : nearB w2'
 ·rw [e0 _ (by simp only [Stp.rg, Stp.ls, hl1, hl2]; simp)]
  clear e0 hl0 hl1
  go_enter Tryz.func71, Tryz.ntmps71
  go_wp2_with fail
  refine (RL.out _ _ _ (ns8 (by first | exact Blk.new2 _ _ _ _ _ | exact Blk.newE (by simp)))).mono ?_
  rintro e w1 ⟨rfl, hb1⟩
  have K1 : Below w.heap.size w w1 := kept_call hb1 bl0
  have Z1 := K1.size
  have b1_0 := Blk.keep (g := w.heap.size) hb1 bn0
  (try simp only [lst, ls0, ls1] at b1_0)
  have b1_1 := Blk.keep (g := w.heap.size + 1) hb1 bn0
  (try simp only [lst, ls0, ls1] at b1_1)
  have b1_2 := Blk.keep (g := w.heap.size + 2) hb1 bn0
  (try simp only [lst, ls0, ls1] at b1_2)
  clear hb1
  obtain ⟨c1_0, f1_0, l1_0, e1_0, k1_0⟩ := Blk.facts b1_0
  obtain ⟨c1_1, f1_1, l1_1, e1_1, k1_1⟩ := Blk.facts b1_1
  obtain ⟨c1_2, f1_2, l1_2, e1_2, k1_2⟩ := Blk.facts b1_2
  have o1_0 := l1_0
  have o1_1 := l1_1
  have o1_2 := l1_2
  go_wp2_with fail
  refine (near_any _ _).mono ?_
  rintro e w2 ⟨rfl, hb2⟩
  have K2 : Below w.heap.size w w2 := kept_call hb2 bl1
  have Z2 := K2.size
  have b1_0' := Blk.keep (g := w.heap.size) hb2 bn1
  (try simp only [lst, ls0, ls1] at b1_0')
  have b1_1' := Blk.keep (g := w.heap.size + 1) hb2 bn1
  (try simp only [lst, ls0, ls1] at b1_1')
  have b1_2' := Blk.keep (g := w.heap.size + 2) hb2 bn1
  (try simp only [lst, ls0, ls1] at b1_2')
  clear hb2 K1
  clear b1_0 c1_0 f1_0 l1_0 e1_0 k1_0; have b1_0 := b1_0'; clear b1_0'
  clear b1_1 c1_1 f1_1 l1_1 e1_1 k1_1; have b1_1 := b1_1'; clear b1_1'
  clear b1_2 c1_2 f1_2 l1_2 e1_2 k1_2; have b1_2 := b1_2'; clear b1_2'
  obtain ⟨c1_0, f1_0, l1_0, e1_0, k1_0⟩ := Blk.facts b1_0
  obtain ⟨c1_1, f1_1, l1_1, e1_1, k1_1⟩ := Blk.facts b1_1
  obtain ⟨c1_2, f1_2, l1_2, e1_2, k1_2⟩ := Blk.facts b1_2
  rw [hl2]
  go_wp2
  exact bodyPost_ret (v := .int .i64 4) (by simp [results, Tryz.results71, go_sem, *]) rfl ⟨rfl, bl1⟩
 rcases hl3 : nearB w3'
 ·rw [e0 _ (by simp only [Stp.rg, Stp.ls, hl1, hl2, hl3]; simp)]
  clear e0 hl0 hl1
  go_enter Tryz.func71, Tryz.ntmps71
  go_wp2_with fail
  refine (RL.out _ _ _ (ns8 (by first | exact Blk.new2 _ _ _ _ _ | exact Blk.newE (by simp)))).mono ?_
  rintro e w1 ⟨rfl, hb1⟩
  have K1 : Below w.heap.size w w1 := kept_call hb1 bl0
  have Z1 := K1.size
  have b1_0 := Blk.keep (g := w.heap.size) hb1 bn0
  (try simp only [lst, ls0, ls1] at b1_0)
  have b1_1 := Blk.keep (g := w.heap.size + 1) hb1 bn0
  (try simp only [lst, ls0, ls1] at b1_1)
  have b1_2 := Blk.keep (g := w.heap.size + 2) hb1 bn0
  (try simp only [lst, ls0, ls1] at b1_2)
  clear hb1
  obtain ⟨c1_0, f1_0, l1_0, e1_0, k1_0⟩ := Blk.facts b1_0
  obtain ⟨c1_1, f1_1, l1_1, e1_1, k1_1⟩ := Blk.facts b1_1
  obtain ⟨c1_2, f1_2, l1_2, e1_2, k1_2⟩ := Blk.facts b1_2
  have o1_0 := l1_0
  have o1_1 := l1_1
  have o1_2 := l1_2
  go_wp2_with fail
  refine (near_any _ _).mono ?_
  rintro e w2 ⟨rfl, hb2⟩
  have K2 : Below w.heap.size w w2 := kept_call hb2 bl1
  have Z2 := K2.size
  have b1_0' := Blk.keep (g := w.heap.size) hb2 bn1
  (try simp only [lst, ls0, ls1] at b1_0')
  have b1_1' := Blk.keep (g := w.heap.size + 1) hb2 bn1
  (try simp only [lst, ls0, ls1] at b1_1')
  have b1_2' := Blk.keep (g := w.heap.size + 2) hb2 bn1
  (try simp only [lst, ls0, ls1] at b1_2')
  clear hb2 K1
  clear b1_0 c1_0 f1_0 l1_0 e1_0 k1_0; have b1_0 := b1_0'; clear b1_0'
  clear b1_1 c1_1 f1_1 l1_1 e1_1 k1_1; have b1_1 := b1_1'; clear b1_1'
  clear b1_2 c1_2 f1_2 l1_2 e1_2 k1_2; have b1_2 := b1_2'; clear b1_2'
  obtain ⟨c1_0, f1_0, l1_0, e1_0, k1_0⟩ := Blk.facts b1_0
  obtain ⟨c1_1, f1_1, l1_1, e1_1, k1_1⟩ := Blk.facts b1_1
  obtain ⟨c1_2, f1_2, l1_2, e1_2, k1_2⟩ := Blk.facts b1_2
  rw [hl2]
  go_wp2_with fail
  refine (near_any _ _).mono ?_
  rintro e w3 ⟨rfl, hb3⟩
  have K3 : Below w.heap.size w w3 := kept_call hb3 bl1
  have Z3 := K3.size
  have b1_0' := Blk.keep (g := w.heap.size) hb3 bn1
  (try simp only [lst, ls0, ls1] at b1_0')
  have b1_1' := Blk.keep (g := w.heap.size + 1) hb3 bn1
  (try simp only [lst, ls0, ls1] at b1_1')
  have b1_2' := Blk.keep (g := w.heap.size + 2) hb3 bn1
  (try simp only [lst, ls0, ls1] at b1_2')
  clear hb3 K2
  clear b1_0 c1_0 f1_0 l1_0 e1_0 k1_0; have b1_0 := b1_0'; clear b1_0'
  clear b1_1 c1_1 f1_1 l1_1 e1_1 k1_1; have b1_1 := b1_1'; clear b1_1'
  clear b1_2 c1_2 f1_2 l1_2 e1_2 k1_2; have b1_2 := b1_2'; clear b1_2'
  obtain ⟨c1_0, f1_0, l1_0, e1_0, k1_0⟩ := Blk.facts b1_0
  obtain ⟨c1_1, f1_1, l1_1, e1_1, k1_1⟩ := Blk.facts b1_1
  obtain ⟨c1_2, f1_2, l1_2, e1_2, k1_2⟩ := Blk.facts b1_2
  rw [hl3]
  go_wp2
  exact bodyPost_ret (v := .int .i64 4) (by simp [results, Tryz.results71, go_sem, *]) rfl ⟨rfl, bl1⟩
 have er : stpE p n ⟨src, tr, lo, ou, ol, ho, hl, ba, bl, w2', w3'⟩ = if fitsB tr lo p && (fitsB ou ol p && (fitsB ho hl p && fitsB ba bl p)) then 0 else 28 := by
  unfold stpE
  rw [if_pos (by have a1 : decide (0 ≤ src) = true := decide_eq_true (by omega); have a2 : decide (src < (n : Int)) = true := decide_eq_true (by omega); simp only [Stp.rg, Stp.ls, hl1, hl2, hl3, a1, a2]; rfl)]
  rfl
 rw [er]
 clear er e0 hl0 hl1
 obtain ⟨r, hr⟩ : ∃ r : Int, (if fitsB tr lo p && (fitsB ou ol p && (fitsB ho hl p && fitsB ba bl p)) then 0 else 28) = r := ⟨_, rfl⟩
 rw [hr]
 have HR := hYd hr; clear hr
 go_enter Tryz.func71, Tryz.ntmps71
 go_wp2_with fail
 refine (RL.out _ _ _ (ns8 (by first | exact Blk.new2 _ _ _ _ _ | exact Blk.newE (by simp)))).mono ?_
 rintro e w1 ⟨rfl, hb1⟩
 have K1 : Below w.heap.size w w1 := kept_call hb1 bl0
 have Z1 := K1.size
 have b1_0 := Blk.keep (g := w.heap.size) hb1 bn0
 (try simp only [lst, ls0, ls1] at b1_0)
 have b1_1 := Blk.keep (g := w.heap.size + 1) hb1 bn0
 (try simp only [lst, ls0, ls1] at b1_1)
 have b1_2 := Blk.keep (g := w.heap.size + 2) hb1 bn0
 (try simp only [lst, ls0, ls1] at b1_2)
 clear hb1
 obtain ⟨c1_0, f1_0, l1_0, e1_0, k1_0⟩ := Blk.facts b1_0
 obtain ⟨c1_1, f1_1, l1_1, e1_1, k1_1⟩ := Blk.facts b1_1
 obtain ⟨c1_2, f1_2, l1_2, e1_2, k1_2⟩ := Blk.facts b1_2
 have o1_0 := l1_0
 have o1_1 := l1_1
 have o1_2 := l1_2
 go_wp2_with fail
 refine (near_any _ _).mono ?_
 rintro e w2 ⟨rfl, hb2⟩
 have K2 : Below w.heap.size w w2 := kept_call hb2 bl1
 have Z2 := K2.size
 have b1_0' := Blk.keep (g := w.heap.size) hb2 bn1
 (try simp only [lst, ls0, ls1] at b1_0')
 have b1_1' := Blk.keep (g := w.heap.size + 1) hb2 bn1
 (try simp only [lst, ls0, ls1] at b1_1')
 have b1_2' := Blk.keep (g := w.heap.size + 2) hb2 bn1
 (try simp only [lst, ls0, ls1] at b1_2')
 clear hb2 K1
 clear b1_0 c1_0 f1_0 l1_0 e1_0 k1_0; have b1_0 := b1_0'; clear b1_0'
 clear b1_1 c1_1 f1_1 l1_1 e1_1 k1_1; have b1_1 := b1_1'; clear b1_1'
 clear b1_2 c1_2 f1_2 l1_2 e1_2 k1_2; have b1_2 := b1_2'; clear b1_2'
 obtain ⟨c1_0, f1_0, l1_0, e1_0, k1_0⟩ := Blk.facts b1_0
 obtain ⟨c1_1, f1_1, l1_1, e1_1, k1_1⟩ := Blk.facts b1_1
 obtain ⟨c1_2, f1_2, l1_2, e1_2, k1_2⟩ := Blk.facts b1_2
 rw [hl2]
 go_wp2_with fail
 refine (near_any _ _).mono ?_
 rintro e w3 ⟨rfl, hb3⟩
 have K3 : Below w.heap.size w w3 := kept_call hb3 bl1
 have Z3 := K3.size
 have b1_0' := Blk.keep (g := w.heap.size) hb3 bn1
 (try simp only [lst, ls0, ls1] at b1_0')
 have b1_1' := Blk.keep (g := w.heap.size + 1) hb3 bn1
 (try simp only [lst, ls0, ls1] at b1_1')
 have b1_2' := Blk.keep (g := w.heap.size + 2) hb3 bn1
 (try simp only [lst, ls0, ls1] at b1_2')
 clear hb3 K2
 clear b1_0 c1_0 f1_0 l1_0 e1_0 k1_0; have b1_0 := b1_0'; clear b1_0'
 clear b1_1 c1_1 f1_1 l1_1 e1_1 k1_1; have b1_1 := b1_1'; clear b1_1'
 clear b1_2 c1_2 f1_2 l1_2 e1_2 k1_2; have b1_2 := b1_2'; clear b1_2'
 obtain ⟨c1_0, f1_0, l1_0, e1_0, k1_0⟩ := Blk.facts b1_0
 obtain ⟨c1_1, f1_1, l1_1, e1_1, k1_1⟩ := Blk.facts b1_1
 obtain ⟨c1_2, f1_2, l1_2, e1_2, k1_2⟩ := Blk.facts b1_2
 rw [hl3]
 clear hl2 hl3 RL
 go_wp2
 go_loopg [72] 4 (fun G i wr => ∃ z : Int, 0 ≤ z ∧ z ≤ 4 ∧ G = (4 - z).toNat ∧ i = .int .i64 z ∧ ((1 ≤ z → fitsB tr lo p = true) ∧ (2 ≤ z → fitsB ou ol p = true) ∧ (3 ≤ z → fitsB ho hl p = true) ∧ (4 ≤ z → fitsB ba bl p = true)) ∧ Blk wr w.heap.size 54 #[.int .i64 sta, .int .i64 loc, .int .i64 p, .int .i64 li, .int .i64 ai, .slice A n c, .slice SA m sc] ∧ Blk wr (w.heap.size + 1) 57 #[.int .i64 src, .int .i64 tr, .int .i64 lo, .int .i64 ou, .int .i64 ol, .int .i64 ho, .int .i64 hl, .int .i64 ba, .int .i64 bl, .int .i64 w2', .int .i64 w3'] ∧ Below w.heap.size w wr)
 case atStart => exact ⟨0, by omega, by omega, rfl, rfl, ⟨fun h => absurd h (by decide), fun h => absurd h (by decide), fun h => absurd h (by decide), fun h => absurd h (by decide)⟩, b1_0, b1_1, K3⟩
 case round =>
  obtain ⟨z, z0, z4, rfl, rfl, ⟨y1, y2, y3, y4⟩, bs, bx, KR⟩ := hrel
  have ZR := KR.size
  clear b1_0 c1_0 f1_0 l1_0 e1_0 k1_0
  clear b1_1 c1_1 f1_1 l1_1 e1_1 k1_1
  clear b1_2 c1_2 f1_2 l1_2 e1_2 k1_2
  clear K3
  by_cases e0 : z = 0
  ·subst e0
   have bA0 := bs; have bB0 := bx
   obtain ⟨cA0, fA0, lA0, eA0, kA0⟩ := Blk.facts bA0
   obtain ⟨cB0, fB0, lB0, eB0, kB0⟩ := Blk.facts bB0
   have hix : ∀ W, (Instr.index 153 (.agg #[.int .i64 tr, .int .i64 lo, .int .i64 ou, .int .i64 ol, .int .i64 ho, .int .i64 hl, .int .i64 ba, .int .i64 bl]) (.int .i64 0)).run Tryz.prog W = .ok (.agg #[.int .i64 tr, .int .i64 lo]) W := fun W => rfl
   rcases hf : fitsB tr lo p
   ·have hr : r = 28 := by rw [← HR.out, hf]; simp
    subst hr
    clear HR
    go_wp2_with fail
    refine (fits_any _ _ _ _).mono ?_
    rintro e w14 ⟨rfl, hb14⟩
    have K14 : Below w.heap.size w w14 := kept_call hb14 bl1
    have Z14 := K14.size
    have bA0' := Blk.keep (g := w.heap.size) hb14 bn1
    (try simp only [lst, ls0, ls1] at bA0')
    have bB0' := Blk.keep (g := w.heap.size + 1) hb14 bn1
    (try simp only [lst, ls0, ls1] at bB0')
    have b14_0 := Blk.keep (g := wr.heap.size) hb14 bn0
    (try simp only [lst, ls0, ls1] at b14_0)
    clear hb14 KR
    clear bA0 cA0 fA0 lA0 eA0 kA0; have bA0 := bA0'; clear bA0'
    clear bB0 cB0 fB0 lB0 eB0 kB0; have bB0 := bB0'; clear bB0'
    obtain ⟨cA0, fA0, lA0, eA0, kA0⟩ := Blk.facts bA0
    obtain ⟨cB0, fB0, lB0, eB0, kB0⟩ := Blk.facts bB0
    obtain ⟨c14_0, f14_0, l14_0, e14_0, k14_0⟩ := Blk.facts b14_0
    have o14_0 := l14_0
    rw [hf]
    go_wp2
    exact bodyPost_ret (v := .int .i64 28) (by simp [results, Tryz.results71, go_sem, *]) rfl ⟨rfl, bl1⟩
   ·skip
    go_wp2_with fail
    refine (fits_any _ _ _ _).mono ?_
    rintro e w14 ⟨rfl, hb14⟩
    have K14 : Below w.heap.size w w14 := kept_call hb14 bl1
    have Z14 := K14.size
    have bA0' := Blk.keep (g := w.heap.size) hb14 bn1
    (try simp only [lst, ls0, ls1] at bA0')
    have bB0' := Blk.keep (g := w.heap.size + 1) hb14 bn1
    (try simp only [lst, ls0, ls1] at bB0')
    have b14_0 := Blk.keep (g := wr.heap.size) hb14 bn0
    (try simp only [lst, ls0, ls1] at b14_0)
    clear hb14 KR
    clear bA0 cA0 fA0 lA0 eA0 kA0; have bA0 := bA0'; clear bA0'
    clear bB0 cB0 fB0 lB0 eB0 kB0; have bB0 := bB0'; clear bB0'
    obtain ⟨cA0, fA0, lA0, eA0, kA0⟩ := Blk.facts bA0
    obtain ⟨cB0, fB0, lB0, eB0, kB0⟩ := Blk.facts bB0
    obtain ⟨c14_0, f14_0, l14_0, e14_0, k14_0⟩ := Blk.facts b14_0
    have o14_0 := l14_0
    rw [hf]
    go_wp2
    go_roundg (4 - (1 : Int)).toNat
    case measure => decide
    case rel => exact ⟨1, by omega, by omega, rfl, by go_num, ⟨fun _ => hf, fun h => absurd h (by decide), fun h => absurd h (by decide), fun h => absurd h (by decide)⟩, bA0, bB0, bl1⟩
  by_cases e1 : z = 1
  ·subst e1
   have bA0 := bs; have bB0 := bx
   obtain ⟨cA0, fA0, lA0, eA0, kA0⟩ := Blk.facts bA0
   obtain ⟨cB0, fB0, lB0, eB0, kB0⟩ := Blk.facts bB0
   have hix : ∀ W, (Instr.index 153 (.agg #[.int .i64 tr, .int .i64 lo, .int .i64 ou, .int .i64 ol, .int .i64 ho, .int .i64 hl, .int .i64 ba, .int .i64 bl]) (.int .i64 1)).run Tryz.prog W = .ok (.agg #[.int .i64 ou, .int .i64 ol]) W := fun W => rfl
   rcases hf : fitsB ou ol p
   ·have hr : r = 28 := by rw [← HR.out, hf]; simp
    subst hr
    clear HR
    go_wp2_with fail
    refine (fits_any _ _ _ _).mono ?_
    rintro e w14 ⟨rfl, hb14⟩
    have K14 : Below w.heap.size w w14 := kept_call hb14 bl1
    have Z14 := K14.size
    have bA0' := Blk.keep (g := w.heap.size) hb14 bn1
    (try simp only [lst, ls0, ls1] at bA0')
    have bB0' := Blk.keep (g := w.heap.size + 1) hb14 bn1
    (try simp only [lst, ls0, ls1] at bB0')
    have b14_0 := Blk.keep (g := wr.heap.size) hb14 bn0
    (try simp only [lst, ls0, ls1] at b14_0)
    clear hb14 KR
    clear bA0 cA0 fA0 lA0 eA0 kA0; have bA0 := bA0'; clear bA0'
    clear bB0 cB0 fB0 lB0 eB0 kB0; have bB0 := bB0'; clear bB0'
    obtain ⟨cA0, fA0, lA0, eA0, kA0⟩ := Blk.facts bA0
    obtain ⟨cB0, fB0, lB0, eB0, kB0⟩ := Blk.facts bB0
    obtain ⟨c14_0, f14_0, l14_0, e14_0, k14_0⟩ := Blk.facts b14_0
    have o14_0 := l14_0
    rw [hf]
    go_wp2
    exact bodyPost_ret (v := .int .i64 28) (by simp [results, Tryz.results71, go_sem, *]) rfl ⟨rfl, bl1⟩
   ·skip
    go_wp2_with fail
    refine (fits_any _ _ _ _).mono ?_
    rintro e w14 ⟨rfl, hb14⟩
    have K14 : Below w.heap.size w w14 := kept_call hb14 bl1
    have Z14 := K14.size
    have bA0' := Blk.keep (g := w.heap.size) hb14 bn1
    (try simp only [lst, ls0, ls1] at bA0')
    have bB0' := Blk.keep (g := w.heap.size + 1) hb14 bn1
    (try simp only [lst, ls0, ls1] at bB0')
    have b14_0 := Blk.keep (g := wr.heap.size) hb14 bn0
    (try simp only [lst, ls0, ls1] at b14_0)
    clear hb14 KR
    clear bA0 cA0 fA0 lA0 eA0 kA0; have bA0 := bA0'; clear bA0'
    clear bB0 cB0 fB0 lB0 eB0 kB0; have bB0 := bB0'; clear bB0'
    obtain ⟨cA0, fA0, lA0, eA0, kA0⟩ := Blk.facts bA0
    obtain ⟨cB0, fB0, lB0, eB0, kB0⟩ := Blk.facts bB0
    obtain ⟨c14_0, f14_0, l14_0, e14_0, k14_0⟩ := Blk.facts b14_0
    have o14_0 := l14_0
    rw [hf]
    go_wp2
    go_roundg (4 - (2 : Int)).toNat
    case measure => decide
    case rel => exact ⟨2, by omega, by omega, rfl, by go_num, ⟨fun _ => y1 (by omega), fun _ => hf, fun h => absurd h (by decide), fun h => absurd h (by decide)⟩, bA0, bB0, bl1⟩
  by_cases e2 : z = 2
  ·subst e2
   have bA0 := bs; have bB0 := bx
   obtain ⟨cA0, fA0, lA0, eA0, kA0⟩ := Blk.facts bA0
   obtain ⟨cB0, fB0, lB0, eB0, kB0⟩ := Blk.facts bB0
   have hix : ∀ W, (Instr.index 153 (.agg #[.int .i64 tr, .int .i64 lo, .int .i64 ou, .int .i64 ol, .int .i64 ho, .int .i64 hl, .int .i64 ba, .int .i64 bl]) (.int .i64 2)).run Tryz.prog W = .ok (.agg #[.int .i64 ho, .int .i64 hl]) W := fun W => rfl
   rcases hf : fitsB ho hl p
   ·have hr : r = 28 := by rw [← HR.out, hf]; simp
    subst hr
    clear HR
    go_wp2_with fail
    refine (fits_any _ _ _ _).mono ?_
    rintro e w14 ⟨rfl, hb14⟩
    have K14 : Below w.heap.size w w14 := kept_call hb14 bl1
    have Z14 := K14.size
    have bA0' := Blk.keep (g := w.heap.size) hb14 bn1
    (try simp only [lst, ls0, ls1] at bA0')
    have bB0' := Blk.keep (g := w.heap.size + 1) hb14 bn1
    (try simp only [lst, ls0, ls1] at bB0')
    have b14_0 := Blk.keep (g := wr.heap.size) hb14 bn0
    (try simp only [lst, ls0, ls1] at b14_0)
    clear hb14 KR
    clear bA0 cA0 fA0 lA0 eA0 kA0; have bA0 := bA0'; clear bA0'
    clear bB0 cB0 fB0 lB0 eB0 kB0; have bB0 := bB0'; clear bB0'
    obtain ⟨cA0, fA0, lA0, eA0, kA0⟩ := Blk.facts bA0
    obtain ⟨cB0, fB0, lB0, eB0, kB0⟩ := Blk.facts bB0
    obtain ⟨c14_0, f14_0, l14_0, e14_0, k14_0⟩ := Blk.facts b14_0
    have o14_0 := l14_0
    rw [hf]
    go_wp2
    exact bodyPost_ret (v := .int .i64 28) (by simp [results, Tryz.results71, go_sem, *]) rfl ⟨rfl, bl1⟩
   ·skip
    go_wp2_with fail
    refine (fits_any _ _ _ _).mono ?_
    rintro e w14 ⟨rfl, hb14⟩
    have K14 : Below w.heap.size w w14 := kept_call hb14 bl1
    have Z14 := K14.size
    have bA0' := Blk.keep (g := w.heap.size) hb14 bn1
    (try simp only [lst, ls0, ls1] at bA0')
    have bB0' := Blk.keep (g := w.heap.size + 1) hb14 bn1
    (try simp only [lst, ls0, ls1] at bB0')
    have b14_0 := Blk.keep (g := wr.heap.size) hb14 bn0
    (try simp only [lst, ls0, ls1] at b14_0)
    clear hb14 KR
    clear bA0 cA0 fA0 lA0 eA0 kA0; have bA0 := bA0'; clear bA0'
    clear bB0 cB0 fB0 lB0 eB0 kB0; have bB0 := bB0'; clear bB0'
    obtain ⟨cA0, fA0, lA0, eA0, kA0⟩ := Blk.facts bA0
    obtain ⟨cB0, fB0, lB0, eB0, kB0⟩ := Blk.facts bB0
    obtain ⟨c14_0, f14_0, l14_0, e14_0, k14_0⟩ := Blk.facts b14_0
    have o14_0 := l14_0
    rw [hf]
    go_wp2
    go_roundg (4 - (3 : Int)).toNat
    case measure => decide
    case rel => exact ⟨3, by omega, by omega, rfl, by go_num, ⟨fun _ => y1 (by omega), fun _ => y2 (by omega), fun _ => hf, fun h => absurd h (by decide)⟩, bA0, bB0, bl1⟩
  by_cases e3 : z = 3
  ·subst e3
   have bA0 := bs; have bB0 := bx
   obtain ⟨cA0, fA0, lA0, eA0, kA0⟩ := Blk.facts bA0
   obtain ⟨cB0, fB0, lB0, eB0, kB0⟩ := Blk.facts bB0
   have hix : ∀ W, (Instr.index 153 (.agg #[.int .i64 tr, .int .i64 lo, .int .i64 ou, .int .i64 ol, .int .i64 ho, .int .i64 hl, .int .i64 ba, .int .i64 bl]) (.int .i64 3)).run Tryz.prog W = .ok (.agg #[.int .i64 ba, .int .i64 bl]) W := fun W => rfl
   rcases hf : fitsB ba bl p
   ·have hr : r = 28 := by rw [← HR.out, hf]; simp
    subst hr
    clear HR
    go_wp2_with fail
    refine (fits_any _ _ _ _).mono ?_
    rintro e w14 ⟨rfl, hb14⟩
    have K14 : Below w.heap.size w w14 := kept_call hb14 bl1
    have Z14 := K14.size
    have bA0' := Blk.keep (g := w.heap.size) hb14 bn1
    (try simp only [lst, ls0, ls1] at bA0')
    have bB0' := Blk.keep (g := w.heap.size + 1) hb14 bn1
    (try simp only [lst, ls0, ls1] at bB0')
    have b14_0 := Blk.keep (g := wr.heap.size) hb14 bn0
    (try simp only [lst, ls0, ls1] at b14_0)
    clear hb14 KR
    clear bA0 cA0 fA0 lA0 eA0 kA0; have bA0 := bA0'; clear bA0'
    clear bB0 cB0 fB0 lB0 eB0 kB0; have bB0 := bB0'; clear bB0'
    obtain ⟨cA0, fA0, lA0, eA0, kA0⟩ := Blk.facts bA0
    obtain ⟨cB0, fB0, lB0, eB0, kB0⟩ := Blk.facts bB0
    obtain ⟨c14_0, f14_0, l14_0, e14_0, k14_0⟩ := Blk.facts b14_0
    have o14_0 := l14_0
    rw [hf]
    go_wp2
    exact bodyPost_ret (v := .int .i64 28) (by simp [results, Tryz.results71, go_sem, *]) rfl ⟨rfl, bl1⟩
   ·skip
    go_wp2_with fail
    refine (fits_any _ _ _ _).mono ?_
    rintro e w14 ⟨rfl, hb14⟩
    have K14 : Below w.heap.size w w14 := kept_call hb14 bl1
    have Z14 := K14.size
    have bA0' := Blk.keep (g := w.heap.size) hb14 bn1
    (try simp only [lst, ls0, ls1] at bA0')
    have bB0' := Blk.keep (g := w.heap.size + 1) hb14 bn1
    (try simp only [lst, ls0, ls1] at bB0')
    have b14_0 := Blk.keep (g := wr.heap.size) hb14 bn0
    (try simp only [lst, ls0, ls1] at b14_0)
    clear hb14 KR
    clear bA0 cA0 fA0 lA0 eA0 kA0; have bA0 := bA0'; clear bA0'
    clear bB0 cB0 fB0 lB0 eB0 kB0; have bB0 := bB0'; clear bB0'
    obtain ⟨cA0, fA0, lA0, eA0, kA0⟩ := Blk.facts bA0
    obtain ⟨cB0, fB0, lB0, eB0, kB0⟩ := Blk.facts bB0
    obtain ⟨c14_0, f14_0, l14_0, e14_0, k14_0⟩ := Blk.facts b14_0
    have o14_0 := l14_0
    rw [hf]
    go_wp2
    go_roundg (4 - (4 : Int)).toNat
    case measure => decide
    case rel => exact ⟨4, by omega, by omega, rfl, by go_num, ⟨fun _ => y1 (by omega), fun _ => y2 (by omega), fun _ => y3 (by omega), fun _ => hf⟩, bA0, bB0, bl1⟩
  obtain rfl : z = 4 := by omega
  have hr : r = 0 := by rw [← HR.out, y1 (by omega), y2 (by omega), y3 (by omega), y4 (by omega)]; rfl
  subst hr
  clear HR
  have bA0 := bs; have bB0 := bx
  obtain ⟨cA0, fA0, lA0, eA0, kA0⟩ := Blk.facts bA0
  obtain ⟨cB0, fB0, lB0, eB0, kB0⟩ := Blk.facts bB0
  go_wp2
  exact bodyPost_ret (v := .int .i64 0) (by simp [results, Tryz.results71, go_sem, *]) rfl ⟨rfl, bl1⟩
end Go.Proofs.YtlnboheahbfgfaaGreat
namespace Go.Proofs.YtlnboheahbfgfaaGreat
open Go.RowKit
set_option linter.unusedSimpArgs false
set_option linter.unusedVariables false

set_option maxRecDepth 100000 in
set_option maxHeartbeats 2000000 in
theorem icheck_any (s : Sch) (A SA : Option Addr) (c sc : Nat) (w : World) (h : SchAt w s A SA) :
  Calls Tryz.prog 32 #[.agg #[.int .i64 s.sta, .int .i64 s.loc, .int .i64 s.p, .int .i64 s.li, .int .i64 s.ai, .slice A s.es.length c, .slice SA s.xs.length sc]] w (RB w (.int .i64 (chkE s))) := by
 have HH := hYd h
 have hel := h.1.2.1
 have hxl := h.2.2.1
 clear h
 obtain ⟨sta, loc, p, li, ai, es, xs⟩ := s
 dsimp only at *
 obtain ⟨n, hn⟩ : ∃ n, n = es.length := ⟨_, rfl⟩
 obtain ⟨m, hm⟩ : ∃ m, m = xs.length := ⟨_, rfl⟩
 have hE : SchAt w ⟨sta, loc, p, li, ai, es, xs⟩ A SA = (NsAt w A n es ∧ StpsAt w SA m xs) := by rw [hn, hm]; rfl
 rw [hE] at HH
 clear hE
 have HN := hYd hn; have HM := hYd hm
 rw [← hn] at hel
 rw [← hm] at hxl
 have c8 : (n < 1 ∨ 8 < n ∨ 64 < m) → chkE ⟨sta, loc, p, li, ai, es, xs⟩ = 8 := fun h => by unfold chkE; simp only; rw [← hn, ← hm, if_pos h]
 have c4 : ¬ (n < 1 ∨ 8 < n ∨ 64 < m) → Sch.rg ⟨sta, loc, p, li, ai, es, xs⟩ = false → chkE ⟨sta, loc, p, li, ai, es, xs⟩ = 4 := fun h h' => by unfold chkE; simp only; rw [← hn, ← hm, if_neg h, if_neg (by rw [h']; simp)]
 have c0 : ¬ (n < 1 ∨ 8 < n ∨ 64 < m) → Sch.rg ⟨sta, loc, p, li, ai, es, xs⟩ = true → chkE ⟨sta, loc, p, li, ai, es, xs⟩ = stpsE p n xs := fun h h' => by unfold chkE; simp only; rw [← hn, ← hm, if_neg h, if_pos h']
 simp only [← hn, ← hm]
 clear hn hm
 by_cases h1 : n < 1
 ·rw [c8 (.inl h1)]
  have g1 : decide ((n : Int) < 1) = true := decide_eq_true (by omega)
  have g1n : decide (n < 1) = true := decide_eq_true h1
  clear c8 c4 c0
  go_enter Tryz.func32, Tryz.ntmps32
  go_wp2
  exact bodyPost_ret (v := .int .i64 8) (by simp [results, Tryz.results32, go_sem, *]) rfl ⟨rfl, bl0⟩
 have g1 : decide ((n : Int) < 1) = false := decide_eq_false (by omega)
 have g1n : decide (n < 1) = false := decide_eq_false h1
 by_cases h2 : 8 < n
 ·rw [c8 (.inr (.inl h2))]
  have g2 : decide ((8 : Int) < (n : Int)) = true := decide_eq_true (by omega)
  have g2n : decide (8 < n) = true := decide_eq_true h2
  clear c8 c4 c0
  go_enter Tryz.func32, Tryz.ntmps32
  go_wp2
  exact bodyPost_ret (v := .int .i64 8) (by simp [results, Tryz.results32, go_sem, *]) rfl ⟨rfl, bl0⟩
 have g2 : decide ((8 : Int) < (n : Int)) = false := decide_eq_false (by omega)
 have g2n : decide (8 < n) = false := decide_eq_false h2
 by_cases h3 : 64 < m
 ·rw [c8 (.inr (.inr h3))]
  have g3 : decide ((64 : Int) < (m : Int)) = true := decide_eq_true (by omega)
  have g3n : decide (64 < m) = true := decide_eq_true h3
  clear c8 c4 c0
  go_enter Tryz.func32, Tryz.ntmps32
  go_wp2
  exact bodyPost_ret (v := .int .i64 8) (by simp [results, Tryz.results32, go_sem, *]) rfl ⟨rfl, bl0⟩
 have g3 : decide ((64 : Int) < (m : Int)) = false := decide_eq_false (by omega)
 have g3n : decide (64 < m) = false := decide_eq_false h3
 have hL : ¬ (n < 1 ∨ 8 < n ∨ 64 < m) := by omega
 clear c8
 replace c4 := c4 hL
 replace c0 := c0 hL
 have E4 := hYd c4; have E0 := hYd c0; clear c4 c0 hL
 unfold Sch.rg at E4 E0
 simp only [← HN.out] at E4 E0
 rcases t0 : nearB sta
 ·rw [E4.out (by simp only [t0]; simp)]
  clear E4 E0
  go_enter Tryz.func32, Tryz.ntmps32
  go_wp2_with fail
  refine (near_any _ _).mono ?_
  rintro e w1 ⟨rfl, hb1⟩
  have K1 : Below w.heap.size w w1 := kept_call hb1 bl0
  have Z1 := K1.size
  have b1_0 := Blk.keep (g := w.heap.size) hb1 bn0
  (try simp only [lst, ls0, ls1] at b1_0)
  clear hb1
  obtain ⟨c1_0, f1_0, l1_0, e1_0, k1_0⟩ := Blk.facts b1_0
  have o1_0 := l1_0
  rw [t0]
  go_wp2
  exact bodyPost_ret (v := .int .i64 4) (by simp [results, Tryz.results32, go_sem, *]) rfl ⟨rfl, bl1⟩
 rcases t1 : nearB loc
 ·rw [E4.out (by simp only [t0, t1]; simp)]
  clear E4 E0
  go_enter Tryz.func32, Tryz.ntmps32
  go_wp2_with fail
  refine (near_any _ _).mono ?_
  rintro e w1 ⟨rfl, hb1⟩
  have K1 : Below w.heap.size w w1 := kept_call hb1 bl0
  have Z1 := K1.size
  have b1_0 := Blk.keep (g := w.heap.size) hb1 bn0
  (try simp only [lst, ls0, ls1] at b1_0)
  clear hb1
  obtain ⟨c1_0, f1_0, l1_0, e1_0, k1_0⟩ := Blk.facts b1_0
  have o1_0 := l1_0
  rw [t0]
  go_wp2_with fail
  refine (near_any _ _).mono ?_
  rintro e w2 ⟨rfl, hb2⟩
  have K2 : Below w.heap.size w w2 := kept_call hb2 bl1
  have Z2 := K2.size
  have b1_0' := Blk.keep (g := w.heap.size) hb2 bn1
  (try simp only [lst, ls0, ls1] at b1_0')
  clear hb2 K1
  clear b1_0 c1_0 f1_0 l1_0 e1_0 k1_0; have b1_0 := b1_0'; clear b1_0'
  obtain ⟨c1_0, f1_0, l1_0, e1_0, k1_0⟩ := Blk.facts b1_0
  rw [t1]
  go_wp2
  exact bodyPost_ret (v := .int .i64 4) (by simp [results, Tryz.results32, go_sem, *]) rfl ⟨rfl, bl1⟩
 rcases t2 : decide (0 ≤ p)
 ·rw [E4.out (by simp only [t0, t1, t2]; simp)]
  clear E4 E0
  have v2 := of_decide_eq_false t2
  have s2 : decide (p < 0) = true := decide_eq_true (by omega)
  go_enter Tryz.func32, Tryz.ntmps32
  go_wp2_with fail
  refine (near_any _ _).mono ?_
  rintro e w1 ⟨rfl, hb1⟩
  have K1 : Below w.heap.size w w1 := kept_call hb1 bl0
  have Z1 := K1.size
  have b1_0 := Blk.keep (g := w.heap.size) hb1 bn0
  (try simp only [lst, ls0, ls1] at b1_0)
  clear hb1
  obtain ⟨c1_0, f1_0, l1_0, e1_0, k1_0⟩ := Blk.facts b1_0
  have o1_0 := l1_0
  rw [t0]
  go_wp2_with fail
  refine (near_any _ _).mono ?_
  rintro e w2 ⟨rfl, hb2⟩
  have K2 : Below w.heap.size w w2 := kept_call hb2 bl1
  have Z2 := K2.size
  have b1_0' := Blk.keep (g := w.heap.size) hb2 bn1
  (try simp only [lst, ls0, ls1] at b1_0')
  clear hb2 K1
  clear b1_0 c1_0 f1_0 l1_0 e1_0 k1_0; have b1_0 := b1_0'; clear b1_0'
  obtain ⟨c1_0, f1_0, l1_0, e1_0, k1_0⟩ := Blk.facts b1_0
  rw [t1]
  go_wp2
  exact bodyPost_ret (v := .int .i64 4) (by simp [results, Tryz.results32, go_sem, *]) rfl ⟨rfl, bl1⟩
 have v2 := of_decide_eq_true t2
 have s2 : decide (p < 0) = false := decide_eq_false (by omega)
 rcases t3 : decide (p ≤ 1000000)
 ·rw [E4.out (by simp only [t0, t1, t2, t3]; simp)]
  clear E4 E0
  have v3 := of_decide_eq_false t3
  have s3 : decide (1000000 < p) = true := decide_eq_true (by omega)
  go_enter Tryz.func32, Tryz.ntmps32
  go_wp2_with fail
  refine (near_any _ _).mono ?_
  rintro e w1 ⟨rfl, hb1⟩
  have K1 : Below w.heap.size w w1 := kept_call hb1 bl0
  have Z1 := K1.size
  have b1_0 := Blk.keep (g := w.heap.size) hb1 bn0
  (try simp only [lst, ls0, ls1] at b1_0)
  clear hb1
  obtain ⟨c1_0, f1_0, l1_0, e1_0, k1_0⟩ := Blk.facts b1_0
  have o1_0 := l1_0
  rw [t0]
  go_wp2_with fail
  refine (near_any _ _).mono ?_
  rintro e w2 ⟨rfl, hb2⟩
  have K2 : Below w.heap.size w w2 := kept_call hb2 bl1
  have Z2 := K2.size
  have b1_0' := Blk.keep (g := w.heap.size) hb2 bn1
  (try simp only [lst, ls0, ls1] at b1_0')
  clear hb2 K1
  clear b1_0 c1_0 f1_0 l1_0 e1_0 k1_0; have b1_0 := b1_0'; clear b1_0'
  obtain ⟨c1_0, f1_0, l1_0, e1_0, k1_0⟩ := Blk.facts b1_0
  rw [t1]
  go_wp2
  exact bodyPost_ret (v := .int .i64 4) (by simp [results, Tryz.results32, go_sem, *]) rfl ⟨rfl, bl1⟩
 have v3 := of_decide_eq_true t3
 have s3 : decide (1000000 < p) = false := decide_eq_false (by omega)
 rcases t4 : decide (0 ≤ ai)
 ·rw [E4.out (by simp only [t0, t1, t2, t3, t4]; simp)]
  clear E4 E0
  have v4 := of_decide_eq_false t4
  have s4 : decide (ai < 0) = true := decide_eq_true (by omega)
  go_enter Tryz.func32, Tryz.ntmps32
  go_wp2_with fail
  refine (near_any _ _).mono ?_
  rintro e w1 ⟨rfl, hb1⟩
  have K1 : Below w.heap.size w w1 := kept_call hb1 bl0
  have Z1 := K1.size
  have b1_0 := Blk.keep (g := w.heap.size) hb1 bn0
  (try simp only [lst, ls0, ls1] at b1_0)
  clear hb1
  obtain ⟨c1_0, f1_0, l1_0, e1_0, k1_0⟩ := Blk.facts b1_0
  have o1_0 := l1_0
  rw [t0]
  go_wp2_with fail
  refine (near_any _ _).mono ?_
  rintro e w2 ⟨rfl, hb2⟩
  have K2 : Below w.heap.size w w2 := kept_call hb2 bl1
  have Z2 := K2.size
  have b1_0' := Blk.keep (g := w.heap.size) hb2 bn1
  (try simp only [lst, ls0, ls1] at b1_0')
  clear hb2 K1
  clear b1_0 c1_0 f1_0 l1_0 e1_0 k1_0; have b1_0 := b1_0'; clear b1_0'
  obtain ⟨c1_0, f1_0, l1_0, e1_0, k1_0⟩ := Blk.facts b1_0
  rw [t1]
  go_wp2
  exact bodyPost_ret (v := .int .i64 4) (by simp [results, Tryz.results32, go_sem, *]) rfl ⟨rfl, bl1⟩
 have v4 := of_decide_eq_true t4
 have s4 : decide (ai < 0) = false := decide_eq_false (by omega)
 rcases t5 : decide (ai ≤ 1000)
 ·rw [E4.out (by simp only [t0, t1, t2, t3, t4, t5]; simp)]
  clear E4 E0
  have v5 := of_decide_eq_false t5
  have s5 : decide (1000 < ai) = true := decide_eq_true (by omega)
  go_enter Tryz.func32, Tryz.ntmps32
  go_wp2_with fail
  refine (near_any _ _).mono ?_
  rintro e w1 ⟨rfl, hb1⟩
  have K1 : Below w.heap.size w w1 := kept_call hb1 bl0
  have Z1 := K1.size
  have b1_0 := Blk.keep (g := w.heap.size) hb1 bn0
  (try simp only [lst, ls0, ls1] at b1_0)
  clear hb1
  obtain ⟨c1_0, f1_0, l1_0, e1_0, k1_0⟩ := Blk.facts b1_0
  have o1_0 := l1_0
  rw [t0]
  go_wp2_with fail
  refine (near_any _ _).mono ?_
  rintro e w2 ⟨rfl, hb2⟩
  have K2 : Below w.heap.size w w2 := kept_call hb2 bl1
  have Z2 := K2.size
  have b1_0' := Blk.keep (g := w.heap.size) hb2 bn1
  (try simp only [lst, ls0, ls1] at b1_0')
  clear hb2 K1
  clear b1_0 c1_0 f1_0 l1_0 e1_0 k1_0; have b1_0 := b1_0'; clear b1_0'
  obtain ⟨c1_0, f1_0, l1_0, e1_0, k1_0⟩ := Blk.facts b1_0
  rw [t1]
  go_wp2
  exact bodyPost_ret (v := .int .i64 4) (by simp [results, Tryz.results32, go_sem, *]) rfl ⟨rfl, bl1⟩
 have v5 := of_decide_eq_true t5
 have s5 : decide (1000 < ai) = false := decide_eq_false (by omega)
 rcases t6 : decide (0 ≤ li)
 ·rw [E4.out (by simp only [t0, t1, t2, t3, t4, t5, t6]; simp)]
  clear E4 E0
  have v6 := of_decide_eq_false t6
  have s6 : decide (li < 0) = true := decide_eq_true (by omega)
  go_enter Tryz.func32, Tryz.ntmps32
  go_wp2_with fail
  refine (near_any _ _).mono ?_
  rintro e w1 ⟨rfl, hb1⟩
  have K1 : Below w.heap.size w w1 := kept_call hb1 bl0
  have Z1 := K1.size
  have b1_0 := Blk.keep (g := w.heap.size) hb1 bn0
  (try simp only [lst, ls0, ls1] at b1_0)
  clear hb1
  obtain ⟨c1_0, f1_0, l1_0, e1_0, k1_0⟩ := Blk.facts b1_0
  have o1_0 := l1_0
  rw [t0]
  go_wp2_with fail
  refine (near_any _ _).mono ?_
  rintro e w2 ⟨rfl, hb2⟩
  have K2 : Below w.heap.size w w2 := kept_call hb2 bl1
  have Z2 := K2.size
  have b1_0' := Blk.keep (g := w.heap.size) hb2 bn1
  (try simp only [lst, ls0, ls1] at b1_0')
  clear hb2 K1
  clear b1_0 c1_0 f1_0 l1_0 e1_0 k1_0; have b1_0 := b1_0'; clear b1_0'
  obtain ⟨c1_0, f1_0, l1_0, e1_0, k1_0⟩ := Blk.facts b1_0
  rw [t1]
  go_wp2
  exact bodyPost_ret (v := .int .i64 4) (by simp [results, Tryz.results32, go_sem, *]) rfl ⟨rfl, bl1⟩
 have v6 := of_decide_eq_true t6
 have s6 : decide (li < 0) = false := decide_eq_false (by omega)
 rcases t7 : decide (li ≤ (n : Int))
 ·rw [E4.out (by simp only [t0, t1, t2, t3, t4, t5, t6, t7]; simp)]
  clear E4 E0
  have v7 := of_decide_eq_false t7
  have s7 : decide ((n : Int) < li) = true := decide_eq_true (by omega)
  go_enter Tryz.func32, Tryz.ntmps32
  go_wp2_with fail
  refine (near_any _ _).mono ?_
  rintro e w1 ⟨rfl, hb1⟩
  have K1 : Below w.heap.size w w1 := kept_call hb1 bl0
  have Z1 := K1.size
  have b1_0 := Blk.keep (g := w.heap.size) hb1 bn0
  (try simp only [lst, ls0, ls1] at b1_0)
  clear hb1
  obtain ⟨c1_0, f1_0, l1_0, e1_0, k1_0⟩ := Blk.facts b1_0
  have o1_0 := l1_0
  rw [t0]
  go_wp2_with fail
  refine (near_any _ _).mono ?_
  rintro e w2 ⟨rfl, hb2⟩
  have K2 : Below w.heap.size w w2 := kept_call hb2 bl1
  have Z2 := K2.size
  have b1_0' := Blk.keep (g := w.heap.size) hb2 bn1
  (try simp only [lst, ls0, ls1] at b1_0')
  clear hb2 K1
  clear b1_0 c1_0 f1_0 l1_0 e1_0 k1_0; have b1_0 := b1_0'; clear b1_0'
  obtain ⟨c1_0, f1_0, l1_0, e1_0, k1_0⟩ := Blk.facts b1_0
  rw [t1]
  go_wp2
  exact bodyPost_ret (v := .int .i64 4) (by simp [results, Tryz.results32, go_sem, *]) rfl ⟨rfl, bl1⟩
 have v7 := of_decide_eq_true t7
 have s7 : decide ((n : Int) < li) = false := decide_eq_false (by omega)
 have wl : IntKind.i64.wrap (2 * li) = 2 * li := IntWalk.i64_in _ (by omega)
 rcases t8 : decide (2 * li < (n : Int))
 ·rw [E4.out (by simp only [t0, t1, t2, t3, t4, t5, t6, t7, t8]; simp)]
  clear E4 E0
  have v8 := of_decide_eq_false t8
  have s8 : decide ((n : Int) ≤ 2 * li) = true := decide_eq_true (by omega)
  go_enter Tryz.func32, Tryz.ntmps32
  go_wp2_with fail
  refine (near_any _ _).mono ?_
  rintro e w1 ⟨rfl, hb1⟩
  have K1 : Below w.heap.size w w1 := kept_call hb1 bl0
  have Z1 := K1.size
  have b1_0 := Blk.keep (g := w.heap.size) hb1 bn0
  (try simp only [lst, ls0, ls1] at b1_0)
  clear hb1
  obtain ⟨c1_0, f1_0, l1_0, e1_0, k1_0⟩ := Blk.facts b1_0
  have o1_0 := l1_0
  rw [t0]
  go_wp2_with fail
  refine (near_any _ _).mono ?_
  rintro e w2 ⟨rfl, hb2⟩
  have K2 : Below w.heap.size w w2 := kept_call hb2 bl1
  have Z2 := K2.size
  have b1_0' := Blk.keep (g := w.heap.size) hb2 bn1
  (try simp only [lst, ls0, ls1] at b1_0')
  clear hb2 K1
  clear b1_0 c1_0 f1_0 l1_0 e1_0 k1_0; have b1_0 := b1_0'; clear b1_0'
  obtain ⟨c1_0, f1_0, l1_0, e1_0, k1_0⟩ := Blk.facts b1_0
  rw [t1]
  go_wp2
  exact bodyPost_ret (v := .int .i64 4) (by simp [results, Tryz.results32, go_sem, *]) rfl ⟨rfl, bl1⟩
 have v8 := of_decide_eq_true t8
 have s8 : decide ((n : Int) ≤ 2 * li) = false := decide_eq_false (by omega)
 rcases t9 : es.all lenB
 ·rw [E4.out (by simp only [t0, t1, t2, t3, t4, t5, t6, t7, t8, t9]; simp)]
  clear E4 E0
  go_enter Tryz.func32, Tryz.ntmps32
  go_wp2_with fail
  refine (near_any _ _).mono ?_
  rintro e w1 ⟨rfl, hb1⟩
  have K1 : Below w.heap.size w w1 := kept_call hb1 bl0
  have Z1 := K1.size
  have b1_0 := Blk.keep (g := w.heap.size) hb1 bn0
  (try simp only [lst, ls0, ls1] at b1_0)
  clear hb1
  obtain ⟨c1_0, f1_0, l1_0, e1_0, k1_0⟩ := Blk.facts b1_0
  have o1_0 := l1_0
  rw [t0]
  go_wp2_with fail
  refine (near_any _ _).mono ?_
  rintro e w2 ⟨rfl, hb2⟩
  have K2 : Below w.heap.size w w2 := kept_call hb2 bl1
  have Z2 := K2.size
  have b1_0' := Blk.keep (g := w.heap.size) hb2 bn1
  (try simp only [lst, ls0, ls1] at b1_0')
  clear hb2 K1
  clear b1_0 c1_0 f1_0 l1_0 e1_0 k1_0; have b1_0 := b1_0'; clear b1_0'
  obtain ⟨c1_0, f1_0, l1_0, e1_0, k1_0⟩ := Blk.facts b1_0
  rw [t1]
  go_wp2_with fail
  refine (lens_any _ _ _ _ _ (HH.out.1.below bl1)).mono ?_
  rintro e w3 ⟨rfl, hb3⟩
  have K3 : Below w.heap.size w w3 := kept_call hb3 bl1
  have Z3 := K3.size
  have b1_0' := Blk.keep (g := w.heap.size) hb3 bn1
  (try simp only [lst, ls0, ls1] at b1_0')
  clear hb3 K2
  clear b1_0 c1_0 f1_0 l1_0 e1_0 k1_0; have b1_0 := b1_0'; clear b1_0'
  obtain ⟨c1_0, f1_0, l1_0, e1_0, k1_0⟩ := Blk.facts b1_0
  rw [t9]
  go_wp2
  exact bodyPost_ret (v := .int .i64 4) (by simp [results, Tryz.results32, go_sem, *]) rfl ⟨rfl, bl1⟩
 rw [E0.out (by simp only [t0, t1, t2, t3, t4, t5, t6, t7, t8, t9]; simp)]
 clear E4 E0
 obtain ⟨r, hr⟩ : ∃ r, stpsE p n xs = r := ⟨_, rfl⟩
 rw [hr]
 have HR := hYd hr; clear hr
 go_enter Tryz.func32, Tryz.ntmps32
 go_wp2_with fail
 refine (near_any _ _).mono ?_
 rintro e w1 ⟨rfl, hb1⟩
 have K1 : Below w.heap.size w w1 := kept_call hb1 bl0
 have Z1 := K1.size
 have b1_0 := Blk.keep (g := w.heap.size) hb1 bn0
 (try simp only [lst, ls0, ls1] at b1_0)
 clear hb1
 obtain ⟨c1_0, f1_0, l1_0, e1_0, k1_0⟩ := Blk.facts b1_0
 have o1_0 := l1_0
 rw [t0]
 go_wp2_with fail
 refine (near_any _ _).mono ?_
 rintro e w2 ⟨rfl, hb2⟩
 have K2 : Below w.heap.size w w2 := kept_call hb2 bl1
 have Z2 := K2.size
 have b1_0' := Blk.keep (g := w.heap.size) hb2 bn1
 (try simp only [lst, ls0, ls1] at b1_0')
 clear hb2 K1
 clear b1_0 c1_0 f1_0 l1_0 e1_0 k1_0; have b1_0 := b1_0'; clear b1_0'
 obtain ⟨c1_0, f1_0, l1_0, e1_0, k1_0⟩ := Blk.facts b1_0
 rw [t1]
 go_wp2_with fail
 refine (lens_any _ _ _ _ _ (HH.out.1.below bl1)).mono ?_
 rintro e w3 ⟨rfl, hb3⟩
 have K3 : Below w.heap.size w w3 := kept_call hb3 bl1
 have Z3 := K3.size
 have b1_0' := Blk.keep (g := w.heap.size) hb3 bn1
 (try simp only [lst, ls0, ls1] at b1_0')
 clear hb3 K2
 clear b1_0 c1_0 f1_0 l1_0 e1_0 k1_0; have b1_0 := b1_0'; clear b1_0'
 obtain ⟨c1_0, f1_0, l1_0, e1_0, k1_0⟩ := Blk.facts b1_0
 rw [t9]
 clear t0 t1 t2 t3 t4 t5 t6 t7 t8 t9
 go_wp2
 go_loopg [79] m (fun G i wr => ∃ q : Nat, q ≤ m ∧ G = m - q ∧ i = .int .i64 (q : Int) ∧ (∀ j, j < q → stpE p n (xs.getD j .zero) = 0) ∧ Blk wr w.heap.size 54 #[.int .i64 sta, .int .i64 loc, .int .i64 p, .int .i64 li, .int .i64 ai, .slice A n c, .slice SA m sc] ∧ Below w.heap.size w wr)
 case atStart => exact ⟨0, by omega, by omega, rfl, fun j hj => by omega, b1_0, K3⟩
 case round =>
  obtain ⟨q, hq, rfl, rfl, hall, bA0, KR⟩ := hrel
  have ZR := KR.size
  have HA := hYd hall; clear hall
  clear b1_0 c1_0 f1_0 l1_0 e1_0 k1_0
  clear K3
  obtain ⟨cA0, fA0, lA0, eA0, kA0⟩ := Blk.facts bA0
  by_cases hlt : q < m
  ·have gq : decide ((q : Int) < (m : Int)) = true := decide_eq_true (by omega)
   have gqn : decide (q < m) = true := decide_eq_true hlt
   have wq : IntKind.i64.wrap ((q : Int) + 1) = ((q + 1 : Nat) : Int) := by rw [IntWalk.i64_in _ (by omega)]; omega
   obtain ⟨bl, off, rfl, lbl, d0, d1, d2, d3, d4, d5, d6, d7, d8, d9, d10⟩ := (HH.out.2.below KR).cells hlt
   obtain ⟨x, hx⟩ : ∃ x, xs.getD q .zero = x := ⟨_, rfl⟩
   simp only [hx] at d0 d1 d2 d3 d4 d5 d6 d7 d8 d9 d10
   have HX := hYd hx; clear hx
   obtain ⟨er, her⟩ : ∃ er, stpE p n x = er := ⟨_, rfl⟩
   skip
   have RS := hYd (fun W => istep_any ⟨sta, loc, p, li, ai, es, xs⟩ A (some ⟨bl, off, none⟩) c sc x W)
   dsimp only at RS
   rw [← HN.out, ← HM.out, her] at RS
   go_wp2_with fail
   refine (RS.out _).mono ?_
   rintro e w41 ⟨rfl, hb41⟩
   have K41 : Below w.heap.size w w41 := kept_call hb41 bl1
   have Z41 := K41.size
   have bA0' := Blk.keep (g := w.heap.size) hb41 bn1
   (try simp only [lst, ls0, ls1] at bA0')
   have b41_0 := Blk.keep (g := wr.heap.size) hb41 bn0
   (try simp only [lst, ls0, ls1] at b41_0)
   clear hb41 KR
   clear bA0 cA0 fA0 lA0 eA0 kA0; have bA0 := bA0'; clear bA0'
   obtain ⟨cA0, fA0, lA0, eA0, kA0⟩ := Blk.facts bA0
   obtain ⟨c41_0, f41_0, l41_0, e41_0, k41_0⟩ := Blk.facts b41_0
   have o41_0 := l41_0
   by_cases e0 : er = 0
   ·subst e0
    go_wp2
    go_roundg (m - (q + 1))
    case measure => omega
    case rel =>
     refine ⟨q + 1, by omega, by omega, by go_num, fun j hj => ?_, bA0, bl1⟩
     by_cases e : j = q
     ·subst e; rw [HX.out]; exact her
     ·exact HA.out j (by omega)
   ·have e1 : (er == 0) = false := by simpa using e0
    have e2 : (er != 0) = true := by simpa using e0
    have hr : r = er := by
     rw [← HR.out, stpsE_first (q := q) (by rw [← HM.out]; exact hlt) HA.out (by rw [HX.out, her]; exact e0), HX.out]; exact her
    subst hr
    go_wp2
    exact bodyPost_ret (v := .int .i64 r) (by simp [results, Tryz.results32, go_sem, *]) rfl ⟨rfl, bl1⟩
  ·obtain rfl : q = m := by omega
   have gq : decide ((q : Int) < (q : Int)) = false := decide_eq_false (by omega)
   have gqn : decide (q < q) = false := decide_eq_false (by omega)
   have hr : r = 0 := by
    rw [← HR.out]
    refine stpsE_none fun x hx => ?_
    obtain ⟨j, hj, rfl⟩ := List.getElem_of_mem hx
    have := HA.out j (by rw [HM.out]; exact hj)
    rwa [List.getD_eq_getElem?_getD, List.getElem?_eq_getElem hj] at this
   subst hr
   go_wp2
   exact bodyPost_ret (v := .int .i64 0) (by simp [results, Tryz.results32, go_sem, *]) rfl ⟨rfl, bl1⟩
end Go.Proofs.YtlnboheahbfgfaaGreat
