/- Lemmas. -/
import Derived.Shelf.SlSortCmp.NoneTotal
import Derived.Deep.LoopGhost
import Derived.OwnWalk
import Derived.Test.YtiinmhfolfgobaaGreatDoorSeqS
import Derived.Test.YtiinmhfolfgobaaGreatDoorSortLay
import Derived.Test.YtiinmhfolfgobaaGreatDoorJ11
set_option linter.unusedVariables false
set_option linter.unusedSimpArgs false
namespace Go.Proofs.YtiinmhfolfgobaaGreatDoor
open Go.RowKit Go.Shelf Go.Sort
def encL (x : Int × Int) : List Value := [.int .i64 x.1, .int .i64 x.2]
def cmpI (a b : Int) : Int := if a < b then -1 else if b < a then 1 else 0
theorem cmpI_lt (a b : Int) : decide (cmpI a b < 0) = decide (a < b) := by
 unfold cmpI
 by_cases h1 : a < b
 ·simp [h1]
 ·by_cases h2 : b < a <;> simp [h1, h2]
theorem loSwo : SWO (ltOf fun x y : Int × Int => cmpI x.1 y.1) where
 irrefl x := by simp only [ltOf, cmpI_lt]; simp
 trans x y z h1 h2 := by simp only [ltOf, cmpI_lt] at *; simp at *; omega
 ntrans x y z h1 h2 := by simp only [ltOf, cmpI_lt] at *; simp at *; omega
theorem cellsS_get (zs : List (Int × Int)) : ∀ j, j < zs.length → (cellsS zs)[j * 2]? = some (.int .i64 (zs.getD j (0, 0)).1) ∧ (cellsS zs)[j * 2 + 1]? = some (.int .i64 (zs.getD j (0, 0)).2) := by
 induction zs with
 | nil => intro j hj; simp at hj
 | cons z zs ih =>
  intro j hj
  cases j with
  | zero => simp [cellsS]
  | succ j =>
   have := ih j (by simpa using hj)
   have e : cellsS (z :: zs) = .int .i64 z.1 :: .int .i64 z.2 :: cellsS zs := by simp [cellsS]
   rw [e, show (j + 1) * 2 = j * 2 + 1 + 1 by omega]
   simpa using this
theorem row_cells {w : World} {g : Nat} {cur : Array Value} {e : TypeId} {zs : List (Int × Int)} (hb : w.heap[g]? = some (.cells cur e (0, 0))) (ht : cur.toList.take (zs.length * 2) = cellsS zs) (j : Nat) (hj : j < zs.length) :
  w.cell? ⟨g, 0 + j * 2, none⟩ = some (.int .i64 (zs.getD j (0, 0)).1) ∧ w.cell? ⟨g, 0 + j * 2 + 1, none⟩ = some (.int .i64 (zs.getD j (0, 0)).2) := by
 obtain ⟨h1, h2⟩ := cellsS_get zs j hj
 rw [← ht, List.getElem?_take_of_lt Yo, Array.getElem?_toList] at h1 h2
 refine ⟨?_, ?_⟩ <;> simp only [World.cell?, hb, Nat.zero_add] <;> simp only [Option.isSome_none, Bool.false_eq_true, if_false] <;> assumption
theorem holdsK_of {w : World} {g off : Nat} {zs : List (Int × Int)} (hc : ∀ j, j < zs.length → w.cell? ⟨g, off + j * 2, none⟩ = some (.int .i64 (zs.getD j (0, 0)).1) ∧ w.cell? ⟨g, off + j * 2 + 1, none⟩ = some (.int .i64 (zs.getD j (0, 0)).2)) (hf : ∀ i, w.frozen? ⟨g, i, none⟩ = false) : HoldsK encL 2 w g off zs.toArray := by
 intro t ht
 rw [size_flatK] at ht
 rw [get_flatK _ _ _ _ ht]
 have hj : t / 2 < zs.length := by simp at ht; omega
 refine ⟨?_, hf _⟩
 obtain ⟨h1, h2⟩ := hc (t / 2) hj
 have e0 : zs.toArray[t / 2]! = zs.getD (t / 2) (0, 0) := by rw [getElem!_pos _ _ (by simpa using hj), List.getElem_toArray, Y8, Y9 hj]; rfl
 rw [e0]
 rcases Nat.mod_two_eq_zero_or_one t with h | h
 ·rw [h, show off + t = off + t / 2 * 2 by omega, h1]; rfl
 ·rw [h, show off + t = off + t / 2 * 2 + 1 by omega, h2]; rfl
theorem holdsK_cells {w : World} {g off : Nat} {d : Array (Int × Int)} (h : HoldsK encL 2 w g off d) (j : Nat) (hj : j < d.size) :
  w.cell? ⟨g, off + j * 2, none⟩ = some (.int .i64 (d.toList.getD j (0, 0)).1) ∧ w.cell? ⟨g, off + j * 2 + 1, none⟩ = some (.int .i64 (d.toList.getD j (0, 0)).2) := by
 have h1 := (h.cell hj (show 0 < 2 by omega)).1
 have h2 := (h.cell hj (show 1 < 2 by omega)).1
 have e0 : d[j]! = d.toList.getD j (0, 0) := by rw [getElem!_pos d j hj, Y8, Y9 (by simpa using hj)]; rfl
 rw [e0] at h1 h2
 exact ⟨h1, h2⟩
theorem below_sortedK {w : World} {g n base : Nat} {os : Array Obj} (d : Array (Int × Int)) (hb : base ≤ g) (hw : base ≤ w.heap.size) : Below base w (sortWorldK encL 2 w g 0 n d os) := by
 refine ⟨rfl, rfl, rfl, ?_, fun k hk => ?_⟩
 ·unfold sortWorldK; rw [size_grow, size_putRowK]; show w.heap.size ≤ w.heap.size + _; omega
 ·unfold sortWorldK
  rw [heap_grow_old _ _ (by rw [size_putRowK]; show k < w.heap.size; omega)]
  have hne : g ≠ k := fun e => by omega
  simp [putRowK, putRow, mapBlock, Sort.ahead, Array.getElem?_modify, hne]
def SortedBy (cf : Int × Int → Int × Int → Int) (zs ds : List (Int × Int)) : Prop := ds.Perm zs ∧ ds.Pairwise fun x y => ltOf cf y x = false
theorem sortedBy_of {cf : Int × Int → Int × Int → Int} {zs : List (Int × Int)} {d' : Array (Int × Int)} (hp : PermIn 0 zs.toArray.size zs.toArray d') (hs : SortedIn (ltOf cf) 0 zs.toArray.size d') : SortedBy cf zs d'.toList := by
 obtain ⟨h1, _, h3⟩ := hp
 refine ⟨?_, ?_⟩
 ·have e1 : d'.extract 0 zs.toArray.size = d' := by rw [← h1]; simp
  rw [e1] at h3
  simpa using h3
 ·rw [List.pairwise_iff_getElem]
  intro i j hi hj hij
  have := hs i j (Nat.zero_le _) hij (by rw [← h1]; simpa using hj)
  rw [getElem!_pos _ _ (by simpa using hj), getElem!_pos _ _ (by simpa using hi)] at this
  simpa using this
def loC (x y : Int × Int) : Int := cmpI x.1 y.1
def lastS (out : List (Int × Int)) : Int × Int := out.getD (out.length - 1) (0, 0)
theorem lastS_mem {out : List (Int × Int)} (h : 0 < out.length) : lastS out ∈ out := by
 unfold lastS
 rw [Y8, Y9 Yo]
 exact List.getElem_mem _
theorem isnan_any (a : Int) (w : World) : Calls Tryz.prog 247 #[.int .i64 a] w fun e w' => e = .returned (.bool false) ∧ w' = w := by
 go_enter Tryz.func247, Tryz.ntmps247
 go_wp2
 go_ret
 exact ⟨by simp, rfl⟩
theorem compare_any (a b : Int) (w : World) : Calls Tryz.prog 235 #[.int .i64 a, .int .i64 b] w fun e w' => e = .returned (.int .i64 (cmpI a b)) ∧ w' = w := by
 have h := fun x => isnan_any x w
 have H := Yh h; clear h
 unfold cmpI
 by_cases h1 : a < b
 ·rw [if_pos h1]
  go_enter Tryz.func235, Tryz.ntmps235
  go_wp2_with fail
  refine (H.out a).mono ?_
  rintro e w1 ⟨rfl, rfl⟩
  go_wp2_with fail
  refine (H.out b).mono ?_
  rintro e w1 ⟨rfl, rfl⟩
  go_wp2
  go_ret
  exact ⟨rfl, rfl⟩
 ·rw [if_neg h1]
  have g1 : decide (a < b) = false := decide_eq_false h1
  by_cases h2 : b < a
  ·rw [if_pos h2]
   go_enter Tryz.func235, Tryz.ntmps235
   go_wp2_with fail
   refine (H.out a).mono ?_
   rintro e w1 ⟨rfl, rfl⟩
   go_wp2_with fail
   refine (H.out b).mono ?_
   rintro e w1 ⟨rfl, rfl⟩
   go_wp2
   go_ret
   exact ⟨rfl, rfl⟩
  ·rw [if_neg h2]
   have g2 : decide (b < a) = false := decide_eq_false h2
   go_enter Tryz.func235, Tryz.ntmps235
   go_wp2_with fail
   refine (H.out a).mono ?_
   rintro e w1 ⟨rfl, rfl⟩
   go_wp2_with fail
   refine (H.out b).mono ?_
   rintro e w1 ⟨rfl, rfl⟩
   go_wp2
   go_ret
   exact ⟨rfl, rfl⟩
theorem spans_of_own {w : World} {base : Nat} {A : Option Addr} {cap : Nat} {zs : List (Int × Int)} (h : w.ownsRow base 40 2 (.slice A zs.length cap) zs.length (cellsS zs)) (hm : zs.length ≤ 9223372036854775807) : SpansAt w A zs.length zs := by
 refine ⟨rfl, hm, fun hl => ?_⟩
 obtain ⟨g, c, e, _, hg⟩ := h.form hl
 cases e
 refine ⟨g, 0, rfl, hg, fun j hj => ?_⟩
 obtain ⟨h1, h2⟩ := cellsS_get zs j hj
 refine ⟨?_, ?_⟩
 ·rw [Nat.zero_add, h.cellAt _ Yo]; exact h1
 ·rw [Nat.zero_add, h.cellAt _ Yo]; exact h2
def inS (t : Int) (z : Int × Int) : Bool := vS z.1 z.2 && (decide (z.1 ≤ t) && decide (t ≤ z.2))
def gapsS (out : List (Int × Int)) : Prop := ∀ i, i + 1 < out.length → (out.getD i (0, 0)).2 + 2 ≤ (out.getD (i + 1) (0, 0)).1
theorem inS_iff {t : Int} {z : Int × Int} : inS t z = true ↔ vS z.1 z.2 = true ∧ z.1 ≤ t ∧ t ≤ z.2 := by simp [inS]
theorem sorted_lo {zs ds : List (Int × Int)} (h : SortedBy loC zs ds) : ds.Pairwise fun x y => x.1 ≤ y.1 := by
 refine h.2.imp ?_
 intro a b hab
 have : decide (cmpI b.1 a.1 < 0) = false := hab
 rw [cmpI_lt] at this
 have := of_decide_eq_false this
 omega
def anyIn (t : Int) (zs : List (Int × Int)) : Bool := zs.any (inS t)
theorem anyIn_app (t : Int) (a b : List (Int × Int)) : anyIn t (a ++ b) = (anyIn t a || anyIn t b) := by simp [anyIn]
theorem anyIn_cons (t : Int) (x : Int × Int) (a : List (Int × Int)) : anyIn t (x :: a) = (inS t x || anyIn t a) := by simp [anyIn]
theorem inS_join {t lo hi a b : Int} (h0 : vS lo hi = true) (h1 : vS a b = true) (h2 : lo ≤ a) (h3 : a ≤ hi + 1) : inS t (lo, max hi b) = (inS t (lo, hi) || inS t (a, b)) := by
 have g0 := vS_true.1 h0
 have g1 := vS_true.1 h1
 have g2 : vS lo (max hi b) = true := vS_true.2 ⟨Yo, Yo, Yo⟩
 unfold inS
 simp only [h0, h1, g2, Bool.true_and]
 rw [Bool.eq_iff_iff]
 simp only [Bool.or_eq_true, Bool.and_eq_true, decide_eq_true_eq]
 omega
theorem gaps_cons {x : Int × Int} {l : List (Int × Int)} (h : gapsS (x :: l)) (hv : ∀ z ∈ x :: l, vS z.1 z.2 = true) : gapsS l ∧ ∀ y ∈ l, x.2 + 2 ≤ y.1 := by
 have hg : gapsS l := fun i hi => by
  have := h (i + 1) (by simp; omega)
  simpa using this
 refine ⟨hg, ?_⟩
 cases l with
 | nil => simp
 | cons y l =>
  have h0 := h 0 Ys
  simp at h0
  have hmin : ∀ (l : List (Int × Int)) (y : Int × Int), gapsS (y :: l) → (∀ z ∈ y :: l, vS z.1 z.2 = true) → ∀ z ∈ y :: l, y.1 ≤ z.1 := by
   intro l
   induction l with
   | nil => intro y _ _ z hz; simp at hz; subst hz; exact Int.le_refl _
   | cons u l ih =>
    intro y hg hv z hz
    have h1 := hg 0 Ys
    simp at h1
    have hy := vS_true.1 (hv y Ys)
    rcases List.mem_cons.1 hz with rfl | hz
    ·exact Int.le_refl _
    ·have := ih u (fun i hi => by have := hg (i + 1) (by simp at hi ⊢; omega); simpa using this) (fun z hz => hv z (by simp at hz ⊢; exact .inr hz)) z hz
     omega
  intro z hz
  have := hmin l y hg (fun z hz => hv z (by simp at hz ⊢; exact .inr hz)) z hz
  omega
theorem gaps_snoc {out : List (Int × Int)} {s : Int × Int} (h : gapsS out) (hl : ∀ o ∈ out, o.2 + 2 ≤ s.1) : gapsS (out ++ [s]) := fun i hi => by
 simp at hi
 by_cases e : i + 1 < out.length
 ·have := h i e
  rw [Y8, Y8] at this ⊢
  rw [List.getElem?_append_left Yo, List.getElem?_append_left Yo]
  exact this
 ·have e2 : i + 1 = out.length := by omega
  have hm := hl (out.getD i (0, 0)) (by rw [Y8, Y9 Yo]; exact List.getElem_mem _)
  rw [Y8, Y8] at *
  rw [List.getElem?_append_left Yo, e2]
  simpa using hm
structure Pc where
 (lo hi n : Int)
def cntS (zs : List (Int × Int)) (t : Int) : Int := zs.foldr (fun z a => (if inS t z then 1 else 0) + a) 0
def pcAt (p : Pc) (t : Int) : Int := if p.lo ≤ t ∧ t ≤ p.hi then p.n else 0
def cntP (ps : List Pc) (t : Int) : Int := ps.foldr (fun p a => pcAt p t + a) 0
def sumE (es : List (Int × Int)) (t : Int) : Int := es.foldr (fun e a => (if e.1 ≤ t then e.2 else 0) + a) 0
def evs (zs : List (Int × Int)) : List (Int × Int) := zs.flatMap fun z => [(z.1, 1), (z.2 + 1, -1)]
theorem cntS_cons (z : Int × Int) (zs : List (Int × Int)) (t : Int) : cntS (z :: zs) t = (if inS t z then 1 else 0) + cntS zs t := rfl
theorem cntP_cons (p : Pc) (ps : List Pc) (t : Int) : cntP (p :: ps) t = pcAt p t + cntP ps t := rfl
theorem sumE_cons (e : Int × Int) (es : List (Int × Int)) (t : Int) : sumE (e :: es) t = (if e.1 ≤ t then e.2 else 0) + sumE es t := rfl
theorem cntP_app (a b : List Pc) (t : Int) : cntP (a ++ b) t = cntP a t + cntP b t := by
 induction a with
 | nil => simp [cntP]
 | cons p a ih => rw [List.cons_append, cntP_cons, cntP_cons, ih]; omega
theorem sumE_app (a b : List (Int × Int)) (t : Int) : sumE (a ++ b) t = sumE a t + sumE b t := by
 induction a with
 | nil => simp [sumE]
 | cons p a ih => rw [List.cons_append, sumE_cons, sumE_cons, ih]; omega
theorem cntS_app (a b : List (Int × Int)) (t : Int) : cntS (a ++ b) t = cntS a t + cntS b t := by
 induction a with
 | nil => simp [cntS]
 | cons p a ih => rw [List.cons_append, cntS_cons, cntS_cons, ih]; omega
theorem sumE_perm {a b : List (Int × Int)} (h : a.Perm b) (t : Int) : sumE a t = sumE b t := by
 induction h with
 | nil => rfl
 | cons x _ ih => rw [sumE_cons, sumE_cons, ih]
 | swap x y l => simp only [sumE_cons]; omega
 | trans _ _ h1 h2 => rw [h1, h2]
theorem cntS_nonneg (zs : List (Int × Int)) (t : Int) : 0 ≤ cntS zs t ∧ cntS zs t ≤ zs.length := by
 induction zs with
 | nil => simp [cntS]
 | cons z zs ih => rw [cntS_cons]; split <;> simp <;> omega
theorem cntS_any (zs : List (Int × Int)) (t : Int) : anyIn t zs = decide (1 ≤ cntS zs t) := by
 induction zs with
 | nil => rfl
 | cons z zs ih =>
  rw [anyIn_cons, cntS_cons, ih]
  have := (cntS_nonneg zs t).1
  cases inS t z <;> simp <;> omega
theorem evs_sum {zs : List (Int × Int)} (hv : ∀ z ∈ zs, vS z.1 z.2 = true) (t : Int) : sumE (evs zs) t = cntS zs t := by
 induction zs with
 | nil => rfl
 | cons z zs ih =>
  have e : evs (z :: zs) = (z.1, 1) :: (z.2 + 1, -1) :: evs zs := by simp [evs]
  have hz := hv z Ys
  have g := vS_true.1 hz
  rw [e, sumE_cons, sumE_cons, ih (fun z hz => hv z (by simp [hz])), cntS_cons]
  simp only [inS, hz, Bool.true_and]
  by_cases h1 : z.1 ≤ t <;> by_cases h2 : t ≤ z.2 <;> simp [h1, h2] <;> omega
def PCan (ps : List Pc) : Prop := (∀ p ∈ ps, p.lo ≤ p.hi ∧ 1 ≤ p.n) ∧ ∀ i, i + 1 < ps.length → (ps.getD i ⟨0, 0, 0⟩).hi < (ps.getD (i + 1) ⟨0, 0, 0⟩).lo ∧ ((ps.getD i ⟨0, 0, 0⟩).hi + 1 = (ps.getD (i + 1) ⟨0, 0, 0⟩).lo → (ps.getD i ⟨0, 0, 0⟩).n ≠ (ps.getD (i + 1) ⟨0, 0, 0⟩).n)
theorem PCan.nil : PCan [] := ⟨by simp, fun i hi => by simp at hi⟩
theorem PCan.tail {p : Pc} {l : List Pc} (h : PCan (p :: l)) : PCan l := ⟨fun q hq => h.1 q (by simp [hq]), fun i hi => by
 have := h.2 (i + 1) (by simp; omega)
 simpa using this⟩
theorem PCan.above {p : Pc} : ∀ {l : List Pc}, PCan (p :: l) → ∀ q ∈ l, p.hi < q.lo
 | [], _, q, hq => by simp at hq
 | r :: l, h, q, hq => by
  have h0 := (h.2 0 Ys).1
  simp at h0
  rcases List.mem_cons.1 hq with rfl | hq
  ·exact h0
  ·have := PCan.above h.tail q hq
   have := (h.1 r Ys).1
   omega
theorem cntP_below {l : List Pc} {t : Int} (h : ∀ q ∈ l, t < q.lo) : cntP l t = 0 := by
 induction l with
 | nil => rfl
 | cons q l ih =>
  have := h q Ys
  rw [cntP_cons, ih (fun q hq => h q (by simp [hq]))]
  unfold pcAt
  rw [if_neg Yo]; omega
theorem cntP_above {l : List Pc} {t : Int} (h : ∀ q ∈ l, q.hi < t) : cntP l t = 0 := by
 induction l with
 | nil => rfl
 | cons q l ih =>
  have := h q Ys
  rw [cntP_cons, ih (fun q hq => h q (by simp [hq]))]
  unfold pcAt
  rw [if_neg Yo]; omega
theorem pcan_uniq : ∀ (a b : List Pc), PCan a → PCan b → (∀ t, cntP a t = cntP b t) → a = b
 | [], [], _, _, _ => rfl
 | [], q :: b, _, hb, h => by
  exfalso
  have h1 := h q.lo
  have hq := hb.1 q Ys
  have e : cntP b q.lo = 0 := cntP_below (fun r hr => by have := hb.above r hr; omega)
  rw [cntP_cons q b, e] at h1
  unfold pcAt at h1
  rw [if_pos Yo] at h1
  simp [cntP] at h1
  omega
 | p :: a, [], ha, _, h => by
  exfalso
  have h1 := h p.lo
  have hp := ha.1 p Ys
  have e : cntP a p.lo = 0 := cntP_below (fun r hr => by have := ha.above r hr; omega)
  rw [cntP_cons p a, e] at h1
  unfold pcAt at h1
  rw [if_pos Yo] at h1
  simp [cntP] at h1
  omega
 | p :: a, q :: b, ha, hb, h => by
  have hp := ha.1 p Ys
  have hq := hb.1 q Ys
  have la := ha.above
  have lb := hb.above
  -- up to its end, a profile says what its first piece says
  have va : ∀ t, t ≤ p.hi → cntP (p :: a) t = pcAt p t := fun t ht => by
   rw [cntP_cons, cntP_below (fun r hr => by have := la r hr; omega)]; omega
  have vb : ∀ t, t ≤ q.hi → cntP (q :: b) t = pcAt q t := fun t ht => by
   rw [cntP_cons, cntP_below (fun r hr => by have := lb r hr; omega)]; omega
  have elo : p.lo = q.lo := by
   rcases Int.lt_trichotomy p.lo q.lo with c | c | c
   ·have h1 := h p.lo
    rw [va _ Yo, vb _ Yo] at h1
    unfold pcAt at h1
    rw [if_pos Yo, if_neg Yo] at h1
    omega
   ·exact c
   ·have h1 := h q.lo
    rw [va _ Yo, vb _ Yo] at h1
    unfold pcAt at h1
    rw [if_neg Yo, if_pos Yo] at h1
    omega
  have en : p.n = q.n := by
   have h1 := h p.lo
   rw [va _ Yo, vb _ Yo] at h1
   unfold pcAt at h1
   rw [if_pos Yo, if_pos Yo] at h1
   exact h1
  -- behind its end, the first piece's number does not go on
  have nx : ∀ (p : Pc) (a : List Pc), PCan (p :: a) → cntP (p :: a) (p.hi + 1) ≠ p.n := fun p a ha he => by
   have hp := ha.1 p Ys
   rw [cntP_cons] at he
   unfold pcAt at he
   rw [if_neg Yo] at he
   cases a with
   | nil => simp [cntP] at he; omega
   | cons r a =>
    have h0 := ha.2 0 Ys
    simp at h0
    have hr := ha.1 r Ys
    rw [cntP_cons, cntP_below (fun s hs => by have := ha.tail.above s hs; omega)] at he
    unfold pcAt at he
    by_cases c : p.hi + 1 = r.lo
    ·rw [if_pos Yo] at he
     have := h0.2 c
     omega
    ·rw [if_neg Yo] at he
     omega
  have ehi : p.hi = q.hi := by
   rcases Int.lt_trichotomy p.hi q.hi with c | c | c
   ·exfalso
    have h1 := h (p.hi + 1)
    rw [vb _ Yo] at h1
    unfold pcAt at h1
    rw [if_pos Yo] at h1
    exact nx p a ha Yo
   ·exact c
   ·exfalso
    have h1 := h (q.hi + 1)
    rw [va _ Yo] at h1
    unfold pcAt at h1
    rw [if_pos Yo] at h1
    exact nx q b hb Yo
  have epq : p = q := by
   cases p; cases q
   simp only at elo ehi en
   subst elo; subst ehi; subst en; rfl
  subst epq
  rw [pcan_uniq a b ha.tail hb.tail (fun t => by
   have h1 := h t
   rw [cntP_cons, cntP_cons] at h1
   omega)]
def addP (out : List Pc) (p : Pc) : List Pc := if 0 < out.length ∧ (out.getD (out.length - 1) ⟨0, 0, 0⟩).n = p.n ∧ (out.getD (out.length - 1) ⟨0, 0, 0⟩).hi + 1 = p.lo then out.set (out.length - 1) ⟨(out.getD (out.length - 1) ⟨0, 0, 0⟩).lo, p.hi, p.n⟩ else out ++ [p]
theorem snoc_of {α : Type} {l : List α} (h : 0 < l.length) : ∃ (a : List α) (x : α), l = a ++ [x] := by
 rcases List.eq_nil_or_concat l with e | ⟨a, x, e⟩
 ·rw [e] at h; simp at h
 ·exact ⟨a, x, by rw [e, List.concat_eq_append]⟩
theorem addP_length (out : List Pc) (p : Pc) : (addP out p).length ≤ out.length + 1 := by unfold addP; split <;> simp
theorem addP_law {out : List Pc} {p : Pc} (h : PCan out) (hp : p.lo ≤ p.hi ∧ 1 ≤ p.n) (hl : ∀ q ∈ out, q.hi < p.lo) : PCan (addP out p) ∧ (∀ q ∈ addP out p, q.hi ≤ p.hi) ∧ ∀ t, cntP (addP out p) t = cntP out t + pcAt p t := by
 unfold addP
 by_cases h0 : 0 < out.length
 ·obtain ⟨a, x, rfl⟩ := snoc_of h0
  have ex : (a ++ [x]).getD ((a ++ [x]).length - 1) ⟨0, 0, 0⟩ = x := by simp [Y8]
  have es : ∀ y : Pc, (a ++ [x]).set ((a ++ [x]).length - 1) y = a ++ [y] := fun y => by
   rw [lla, List.length_singleton, Nat.add_sub_cancel, List.set_append, if_neg Yo, Nat.sub_self]; rfl
  rw [ex, es]
  have hx := h.1 x Ys
  have hxl := hl x Ys
  by_cases hc : 0 < (a ++ [x]).length ∧ x.n = p.n ∧ x.hi + 1 = p.lo
  ·rw [if_pos hc]
   obtain ⟨-, c1, c2⟩ := hc
   refine ⟨⟨fun q hq => ?_, fun i hi => ?_⟩, fun q hq => ?_, fun t => ?_⟩
   ·rcases List.mem_append.1 hq with hq | hq
    ·exact h.1 q (by simp [hq])
    ·rw [List.mem_singleton.1 hq]; simp only; omega
   ·have h2 := h.2 i (by simp at hi ⊢; omega)
    simp only [Y8] at h2 ⊢
    simp at hi
    rw [List.getElem?_append_left Yo] at h2 ⊢
    by_cases e : i + 1 < a.length
    ·rw [List.getElem?_append_left e] at h2 ⊢; exact h2
    ·obtain e : i + 1 = a.length := by omega
     rw [e] at h2 ⊢
     simp only [List.getElem?_append_right (Nat.le_refl _), Nat.sub_self, lg0, Option.getD_some] at h2 ⊢
     omega
   ·rcases List.mem_append.1 hq with hq | hq
    ·have := hl q (by simp [hq]); omega
    ·rw [List.mem_singleton.1 hq]; simp only; omega
   ·rw [cntP_app, cntP_app]
    simp only [cntP, List.foldr_cons, List.foldr_nil, pcAt]
    by_cases t1 : x.lo ≤ t <;> by_cases t2 : t ≤ x.hi <;> by_cases t3 : t ≤ p.hi <;> simp [t1, t2, t3] <;> (try split) <;> omega
  ·rw [if_neg hc]
   refine ⟨⟨fun q hq => ?_, fun i hi => ?_⟩, fun q hq => ?_, fun t => ?_⟩
   ·rcases List.mem_append.1 hq with hq | hq
    ·exact h.1 q hq
    ·rw [List.mem_singleton.1 hq]; exact hp
   ·simp at hi
    simp only [Y8]
    rw [List.getElem?_append_left (by simp; omega)]
    by_cases e : i + 1 < (a ++ [x]).length
    ·have h2 := h.2 i e
     simp only [Y8] at h2
     rw [List.getElem?_append_left e]; exact h2
    ·obtain rfl : i = a.length := by simp at e; omega
     rw [show a.length + 1 = (a ++ [x]).length by simp]
     simp only [List.getElem?_append_right (Nat.le_refl _), Nat.sub_self, lg0, Option.getD_some]
     exact ⟨hxl, fun e9 e8 => hc ⟨by simp, e8, e9⟩⟩
   ·rcases List.mem_append.1 hq with hq | hq
    ·have := hl q hq; omega
    ·rw [List.mem_singleton.1 hq]; omega
   ·rw [cntP_app]; simp [cntP]
 ·obtain rfl : out = [] := List.length_eq_zero_iff.1 Yo
  rw [if_neg Ys]
  refine ⟨⟨fun q hq => by simp at hq; rw [hq]; exact hp, fun i hi => by simp at hi⟩, fun q hq => by simp at hq; rw [hq]; omega, fun t => by simp [cntP]⟩
def psum (es : List (Int × Int)) : Int := es.foldr (fun e a => e.2 + a) 0
theorem psum_cons (e : Int × Int) (es : List (Int × Int)) : psum (e :: es) = e.2 + psum es := rfl
theorem psum_app (a b : List (Int × Int)) : psum (a ++ b) = psum a + psum b := by
 induction a with
 | nil => simp [psum]
 | cons p a ih => rw [List.cons_append, psum_cons, psum_cons, ih]; omega
theorem psum_perm {a b : List (Int × Int)} (h : a.Perm b) : psum a = psum b := by
 induction h with
 | nil => rfl
 | cons x _ ih => rw [psum_cons, psum_cons, ih]
 | swap x y l => simp only [psum_cons]; omega
 | trans _ _ h1 h2 => rw [h1, h2]
theorem psum_evs (zs : List (Int × Int)) : psum (evs zs) = 0 := by
 induction zs with
 | nil => rfl
 | cons z zs ih =>
  have e : evs (z :: zs) = (z.1, 1) :: (z.2 + 1, -1) :: evs zs := by simp [evs]
  rw [e, psum_cons, psum_cons, ih]; omega
theorem evs_length (zs : List (Int × Int)) : (evs zs).length = 2 * zs.length := by
 induction zs with
 | nil => rfl
 | cons z zs ih =>
  have e : evs (z :: zs) = (z.1, 1) :: (z.2 + 1, -1) :: evs zs := by simp [evs]
  rw [e, List.length_cons, List.length_cons, ih, List.length_cons]; omega
theorem evs_snoc (zs : List (Int × Int)) (z : Int × Int) : evs (zs ++ [z]) = evs zs ++ [(z.1, 1), (z.2 + 1, -1)] := by simp [evs]
theorem sumE_all {es : List (Int × Int)} {t : Int} (h : ∀ e ∈ es, e.1 ≤ t) : sumE es t = psum es := by
 induction es with
 | nil => rfl
 | cons e es ih => rw [sumE_cons, psum_cons, ih (fun x hx => h x (by simp [hx])), if_pos (h e Ys)]
theorem sumE_none {es : List (Int × Int)} {t : Int} (h : ∀ e ∈ es, t < e.1) : sumE es t = 0 := by
 induction es with
 | nil => rfl
 | cons e es ih => rw [sumE_cons, ih (fun x hx => h x (by simp [hx])), if_neg (by have := h e Ys; omega)]; rfl
theorem sumE_split {ds : List (Int × Int)} {k : Nat} {t : Int} (h1 : ∀ e ∈ ds.take k, e.1 ≤ t) (h2 : ∀ e ∈ ds.drop k, t < e.1) : sumE ds t = psum (ds.take k) := by
 conv => lhs; rw [← List.take_append_drop k ds]
 rw [sumE_app, sumE_all h1, sumE_none h2]; omega
theorem sorted_take {ds : List (Int × Int)} (h : ds.Pairwise fun x y => x.1 ≤ y.1) {k : Nat} (hk : k < ds.length) : ∀ e ∈ ds.take (k + 1), e.1 ≤ (ds.getD k (0, 0)).1 := by
 intro e he
 obtain ⟨i, hi, rfl⟩ := List.mem_iff_getElem.1 he
 rw [List.length_take] at hi
 rw [List.getElem_take, Y8, Y9 hk]
 by_cases c : i = k
 ·subst c; exact Int.le_refl _
 ·exact (List.pairwise_iff_getElem.1 h) i k Yo hk Yo
theorem sorted_drop {ds : List (Int × Int)} (h : ds.Pairwise fun x y => x.1 ≤ y.1) {k : Nat} (hk : k < ds.length) : ∀ e ∈ ds.drop k, (ds.getD k (0, 0)).1 ≤ e.1 := by
 intro e he
 obtain ⟨i, hi, rfl⟩ := List.mem_iff_getElem.1 he
 rw [List.length_drop] at hi
 rw [List.getElem_drop, Y8, Y9 hk]
 by_cases c : i = 0
 ·subst c; exact Int.le_refl _
 ·exact (List.pairwise_iff_getElem.1 h) k (k + i) hk Yo Yo
def skipE (ds : List (Int × Int)) (k : Nat) : Prop := psum (ds.take (k + 1)) = 0 ∨ k + 1 = ds.length ∨ (ds.getD (k + 1) (0, 0)).1 = (ds.getD k (0, 0)).1
instance (ds : List (Int × Int)) (k : Nat) : Decidable (skipE ds k) := by unfold skipE; infer_instance
def pcsAt (ds : List (Int × Int)) : Nat → List Pc
 | 0 => []
 | k + 1 => if skipE ds k then pcsAt ds k else addP (pcsAt ds k) ⟨(ds.getD k (0, 0)).1, (ds.getD (k + 1) (0, 0)).1 - 1, psum (ds.take (k + 1))⟩
theorem pcsAt_length (ds : List (Int × Int)) : ∀ k, (pcsAt ds k).length ≤ k
 | 0 => Nat.le_refl _
 | k + 1 => by
  have ih := pcsAt_length ds k
  unfold pcsAt
  split
  ·omega
  ·have := addP_length (pcsAt ds k) ⟨(ds.getD k (0, 0)).1, (ds.getD (k + 1) (0, 0)).1 - 1, psum (ds.take (k + 1))⟩; omega
theorem pcsAt_law {ds : List (Int × Int)} (hs : ds.Pairwise fun x y => x.1 ≤ y.1) (h0 : psum ds = 0) (hn : ∀ t, 0 ≤ sumE ds t) : ∀ k, k ≤ ds.length → PCan (pcsAt ds k) ∧ (∀ q ∈ pcsAt ds k, k < ds.length → q.hi < (ds.getD k (0, 0)).1) ∧ ∀ t, (k < ds.length → t < (ds.getD k (0, 0)).1) → cntP (pcsAt ds k) t = sumE ds t
 | 0, _ => by
  refine ⟨PCan.nil, by simp [pcsAt], fun t ht => ?_⟩
  by_cases c : 0 < ds.length
  ·rw [sumE_none (fun e he => by have := sorted_drop hs c e (by simpa using he); have := ht c; omega)]; rfl
  ·rw [List.length_eq_zero_iff.1 (show ds.length = 0 by omega)]; rfl
 | k + 1, hk => by
  obtain ⟨i1, i2, i3⟩ := pcsAt_law hs h0 hn k Yo
  have i2 := fun q hq => i2 q hq Yo
  have i3 := fun t ht => i3 t (fun _ => ht)
  have tk := sorted_take hs (k := k) Yo
  -- behind the k-th event all earlier pieces have ended
  have past : ∀ t, (ds.getD k (0, 0)).1 ≤ t → cntP (pcsAt ds k) t = 0 := fun t ht => cntP_above (fun q hq => by have := i2 q hq; omega)
  by_cases c : k + 1 = ds.length
  ·have e : pcsAt ds (k + 1) = pcsAt ds k := by
    show (if skipE ds k then _ else _) = _
    rw [if_pos (show skipE ds k from .inr (.inl c))]
   rw [e]
   refine ⟨i1, fun q hq h => by omega, fun t _ => ?_⟩
   by_cases ct : t < (ds.getD k (0, 0)).1
   ·exact i3 t ct
   ·rw [past t Yo, ← h0]
    refine (sumE_all (fun x hx => ?_)).symm
    have := tk x (by rw [c, List.take_length]; exact hx)
    omega
  ·have hk1 : k + 1 < ds.length := by omega
   have dr := sorted_drop hs (k := k + 1) hk1
   have xy : (ds.getD k (0, 0)).1 ≤ (ds.getD (k + 1) (0, 0)).1 := sorted_take hs (k := k + 1) hk1 (ds.getD k (0, 0)) (by
    rw [Y8, Y9 (show k < ds.length by omega)]
    show ds[k] ∈ _
    exact List.mem_take_iff_getElem.2 ⟨k, Yo, rfl⟩)
   have mid : ∀ t, (ds.getD k (0, 0)).1 ≤ t → t < (ds.getD (k + 1) (0, 0)).1 → sumE ds t = psum (ds.take (k + 1)) := fun t h1 h2 =>
    sumE_split (fun e he => by have := tk e he; omega) (fun e he => by have := dr e he; omega)
   by_cases cs : skipE ds k
   ·have e : pcsAt ds (k + 1) = pcsAt ds k := by
     show (if skipE ds k then _ else _) = _
     rw [if_pos cs]
    rw [e]
    refine ⟨i1, fun q hq _ => by have := i2 q hq; omega, fun t ht => ?_⟩
    have ht := ht hk1
    by_cases ct : t < (ds.getD k (0, 0)).1
    ·exact i3 t ct
    ·rcases cs with cs | cs | cs
     ·rw [past t Yo, mid t Yo ht, cs]
     ·exact absurd cs c
     ·omega
   ·have e : pcsAt ds (k + 1) = addP (pcsAt ds k) ⟨(ds.getD k (0, 0)).1, (ds.getD (k + 1) (0, 0)).1 - 1, psum (ds.take (k + 1))⟩ := by
     show (if skipE ds k then _ else _) = _
     rw [if_neg cs]
    have c1 : psum (ds.take (k + 1)) ≠ 0 := fun h => cs (.inl h)
    have c2 : (ds.getD (k + 1) (0, 0)).1 ≠ (ds.getD k (0, 0)).1 := fun h => cs (.inr (.inr h))
    have c3 : 0 ≤ psum (ds.take (k + 1)) := by rw [← mid _ (Int.le_refl _) Yo]; exact hn _
    obtain ⟨a1, a2, a3⟩ := addP_law i1 (p := ⟨(ds.getD k (0, 0)).1, (ds.getD (k + 1) (0, 0)).1 - 1, psum (ds.take (k + 1))⟩) ⟨by simp only; omega, by simp only; omega⟩ i2
    rw [e]
    refine ⟨a1, fun q hq _ => by have := a2 q hq; simp only at this; omega, fun t ht => ?_⟩
    have ht := ht hk1
    rw [a3]
    unfold pcAt
    simp only
    by_cases ct : t < (ds.getD k (0, 0)).1
    ·rw [i3 t ct, if_neg Yo]; omega
    ·rw [past t Yo, if_pos Yo, mid t Yo ht]; omega
theorem pieces_law {zs ds : List (Int × Int)} (hv : ∀ z ∈ zs, vS z.1 z.2 = true) (h : SortedBy loC (evs zs) ds) : PCan (pcsAt ds ds.length) ∧ ∀ t, cntP (pcsAt ds ds.length) t = cntS zs t := by
 have hs := sorted_lo h
 have he : ∀ t, sumE ds t = cntS zs t := fun t => by rw [sumE_perm h.1, evs_sum hv]
 obtain ⟨a, _, b⟩ := pcsAt_law hs (by rw [psum_perm h.1, psum_evs]) (fun t => by rw [he]; exact (cntS_nonneg zs t).1) ds.length (Nat.le_refl _)
 exact ⟨a, fun t => by rw [b t (fun h => by omega), he]⟩
theorem pieces_step {zs ds : List (Int × Int)} (hv : ∀ z ∈ zs, vS z.1 z.2 = true) (h : SortedBy loC (evs zs) ds) (k : Nat) (hk : k ≤ ds.length) : PCan (pcsAt ds k) ∧ ∀ q ∈ pcsAt ds k, k < ds.length → q.hi < (ds.getD k (0, 0)).1 := by
 have hs := sorted_lo h
 have he : ∀ t, sumE ds t = cntS zs t := fun t => by rw [sumE_perm h.1, evs_sum hv]
 obtain ⟨a, b, _⟩ := pcsAt_law hs (by rw [psum_perm h.1, psum_evs]) (fun t => by rw [he]; exact (cntS_nonneg zs t).1) k hk
 exact ⟨a, b⟩
theorem addP_lo {out : List Pc} {p : Pc} {b : Int} (h : ∀ q ∈ out, b ≤ q.lo) (hp : b ≤ p.lo) : ∀ q ∈ addP out p, b ≤ q.lo := by
 intro q hq
 unfold addP at hq
 split at hq
 ·next hc =>
  rcases List.mem_or_eq_of_mem_set hq with hq | rfl
  ·exact h q hq
  ·simp only
   refine h _ ?_
   rw [Y8, Y9 Yo]
   exact List.getElem_mem _
 ·rcases List.mem_append.1 hq with hq | hq
  ·exact h q hq
  ·rw [List.mem_singleton.1 hq]; exact hp
theorem pcs_lo {ds : List (Int × Int)} {b : Int} (h : ∀ e ∈ ds, b ≤ e.1) : ∀ k, k ≤ ds.length → ∀ q ∈ pcsAt ds k, b ≤ q.lo
 | 0, _ => by simp [pcsAt]
 | k + 1, hk => by
  have ih := pcs_lo h k Yo
  have hm := h (ds.getD k (0, 0)) (by rw [Y8, Y9 Yo]; exact List.getElem_mem _)
  intro q hq
  unfold pcsAt at hq
  split at hq
  ·exact ih q hq
  ·exact addP_lo ih hm q hq
theorem sortFuncE (cf : Int × Int → Int × Int → Int) (hO : SWO (ltOf cf)) (g : Nat) (eg : ∀ args w, (callFunc g args).run Tryz.prog w = .ok (.enter g args) w)
  (hcmp : ∀ x y W, Calls Tryz.prog g #[.agg #[.int .i64 x.1, .int .i64 x.2], .agg #[.int .i64 y.1, .int .i64 y.2]] W fun e w' => e = .returned (.int .i64 (cf x y)) ∧ ∃ q os', w' = grow (W.drewN q) os')
  (base : Nat) (v : Value) (zs : List (Int × Int)) (w : World) (hr : w.ownsRow base 231 2 v zs.length (cellsS zs)) (hbase : base ≤ w.heap.size) (hsz : zs.length < 4611686018427387904) :
  Calls Tryz.prog 233 #[v, .func (.func g) #[] #[]] w fun e w' => e = .returned (.tuple #[]) ∧ ∃ A cap ds, v = .slice A zs.length cap ∧ SortedBy cf zs ds ∧ SpansAt w' A zs.length ds ∧ Below base w w' := by
 rcases hr.2 with ⟨rfl, h0⟩ | ⟨b, cap, cur, rfl, hb1, hb2, hb3, hb4, hb5, hb6⟩
 ·obtain rfl : zs = [] := List.eq_nil_of_length_eq_zero h0
  exact (AnyF.slices_SortFunc_none Tryz.sortEvent none 0 (.func (.func g) #[] #[]) w).mono fun e w' ⟨he, hw⟩ => ⟨he, none, 0, [], rfl, ⟨List.Perm.refl _, List.Pairwise.nil⟩, ⟨rfl, by decide, fun h => absurd h Yd⟩, by rw [hw]; exact Below.refl _ _⟩
 ·have hc := fun j hj => row_cells hb2 hb6 j hj
  have hf : ∀ i, w.frozen? ⟨b, i, none⟩ = false := fun i => by simp [World.frozen?, hb2]
  have hH : HoldsK encL 2 w b 0 zs.toArray := holdsK_of hc hf
  have hlt : b < w.heap.size := (Array.getElem?_eq_some_iff.1 hb2).1
  have hcon := AnyQ.slices_SortFunc Tryz.sortEvent 2 Tryz.isAgg231 Tryz.sizeOf231 encL (fun _ => rfl) (fun x v hv => by simp [encL] at hv; rcases hv with rfl | rfl <;> rfl) cf hO g #[] b 0 cap zs.toArray w eg (fun _ _ _ _ x y => hcmp x y _) hH hlt (by simpa using hsz)
  have e : zs.toArray.size = zs.length := by simp
  rw [e] at hcon
  refine hcon.mono ?_
  rintro e1 w' ⟨rfl, d', n, os, hp, hs, rfl⟩
  have hds : d'.size = zs.toArray.size := hp.1
  have hK : HoldsK encL 2 (sortWorldK encL 2 w b 0 n d' os) b 0 d' := (show SWK encL 2 w b 0 d' _ from ⟨n, os, rfl⟩).holds hlt hH hds
  have hsz' : b < (sortWorldK encL 2 w b 0 n d' os).heap.size := (show SWK encL 2 w b 0 d' _ from ⟨n, os, rfl⟩).lt hlt
  refine ⟨rfl, some ⟨b, 0, none⟩, cap, d'.toList, rfl, sortedBy_of (by rw [e]; exact hp) (by rw [e]; exact hs), ⟨by simp [hds], Yo, fun _ => ⟨b, 0, rfl, hsz', fun j hj => holdsK_cells hK j (by rw [hds, e]; exact hj)⟩⟩, below_sortedK _ hb1 hbase⟩
end Go.Proofs.YtiinmhfolfgobaaGreatDoor
