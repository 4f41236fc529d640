/- Texts joined: SortS, UnionW -/
import Derived.Shelf.SlSortCmp.NoneTotal
import Derived.Deep.LoopGhost
import Derived.OwnWalk
import Derived.Test.YtiinmhfolfgobaaGreatDoorSeqS
import Derived.Test.YtiinmhfolfgobaaGreatDoorSortLay
namespace Go.Proofs.YtiinmhfolfgobaaGreatDoor
open Go.RowKit Go.Shelf Go.Sort

/-- A span's two cells; the comparison of two numbers. -/
def encL (x : Int × Int) : List Value := [.int .i64 x.1, .int .i64 x.2]
def cmpI (a b : Int) : Int := if a < b then -1 else if b < a then 1 else 0
theorem cmpI_lt (a b : Int) : decide (cmpI a b < 0) = decide (a < b) := by
  unfold cmpI
  by_cases h1 : a < b
  · simp [h1]
  · by_cases h2 : b < a <;> simp [h1, h2]
theorem loSwo : SWO (ltOf fun x y : Int × Int => cmpI x.1 y.1) where
  irrefl x := by simp only [ltOf, cmpI_lt]; simp
  trans x y z h1 h2 := by simp only [ltOf, cmpI_lt] at *; simp at *; omega
  ntrans x y z h1 h2 := by simp only [ltOf, cmpI_lt] at *; simp at *; omega

theorem cellsS_get (zs : List (Int × Int)) : ∀ j, j < zs.length → (cellsS zs)[j * 2]? = some (.int .i64 (zs.getD j (0, 0)).1) ∧ (cellsS zs)[j * 2 + 1]? = some (.int .i64 (zs.getD j (0, 0)).2) := by
  induction zs with
  | nil => intro j hj; simp at hj
  | cons z zs ih =>
    intro j hj
    cases j with
    | zero => simp [cellsS]
    | succ j =>
      have := ih j (by simpa using hj)
      have e : cellsS (z :: zs) = .int .i64 z.1 :: .int .i64 z.2 :: cellsS zs := by simp [cellsS]
      rw [e, show (j + 1) * 2 = j * 2 + 1 + 1 by omega]
      simpa using this
theorem row_cells {w : World} {g : Nat} {cur : Array Value} {e : TypeId} {zs : List (Int × Int)} (hb : w.heap[g]? = some (.cells cur e (0, 0))) (ht : cur.toList.take (zs.length * 2) = cellsS zs) (j : Nat) (hj : j < zs.length) :
    w.cell? ⟨g, 0 + j * 2, none⟩ = some (.int .i64 (zs.getD j (0, 0)).1) ∧ w.cell? ⟨g, 0 + j * 2 + 1, none⟩ = some (.int .i64 (zs.getD j (0, 0)).2) := by
  obtain ⟨h1, h2⟩ := cellsS_get zs j hj
  rw [← ht, List.getElem?_take_of_lt (by omega), Array.getElem?_toList] at h1 h2
  refine ⟨?_, ?_⟩ <;> simp only [World.cell?, hb, Nat.zero_add] <;> simp only [Option.isSome_none, Bool.false_eq_true, if_false] <;> assumption
theorem holdsK_of {w : World} {g off : Nat} {zs : List (Int × Int)} (hc : ∀ j, j < zs.length → w.cell? ⟨g, off + j * 2, none⟩ = some (.int .i64 (zs.getD j (0, 0)).1) ∧ w.cell? ⟨g, off + j * 2 + 1, none⟩ = some (.int .i64 (zs.getD j (0, 0)).2)) (hf : ∀ i, w.frozen? ⟨g, i, none⟩ = false) : HoldsK encL 2 w g off zs.toArray := by
  intro t ht
  rw [size_flatK] at ht
  rw [get_flatK _ _ _ _ ht]
  have hj : t / 2 < zs.length := by simp at ht; omega
  refine ⟨?_, hf _⟩
  obtain ⟨h1, h2⟩ := hc (t / 2) hj
  have e0 : zs.toArray[t / 2]! = zs.getD (t / 2) (0, 0) := by rw [getElem!_pos _ _ (by simpa using hj), List.getElem_toArray, List.getD_eq_getElem?_getD, List.getElem?_eq_getElem hj]; rfl
  rw [e0]
  rcases Nat.mod_two_eq_zero_or_one t with h | h
  · rw [h, show off + t = off + t / 2 * 2 by omega, h1]; rfl
  · rw [h, show off + t = off + t / 2 * 2 + 1 by omega, h2]; rfl
theorem holdsK_cells {w : World} {g off : Nat} {d : Array (Int × Int)} (h : HoldsK encL 2 w g off d) (j : Nat) (hj : j < d.size) :
    w.cell? ⟨g, off + j * 2, none⟩ = some (.int .i64 (d.toList.getD j (0, 0)).1) ∧ w.cell? ⟨g, off + j * 2 + 1, none⟩ = some (.int .i64 (d.toList.getD j (0, 0)).2) := by
  have h1 := (h.cell hj (show 0 < 2 by omega)).1
  have h2 := (h.cell hj (show 1 < 2 by omega)).1
  have e0 : d[j]! = d.toList.getD j (0, 0) := by rw [getElem!_pos d j hj, List.getD_eq_getElem?_getD, List.getElem?_eq_getElem (by simpa using hj)]; rfl
  rw [e0] at h1 h2
  exact ⟨h1, h2⟩
theorem below_sortedK {w : World} {g n base : Nat} {os : Array Obj} (d : Array (Int × Int)) (hb : base ≤ g) (hw : base ≤ w.heap.size) : Below base w (sortWorldK encL 2 w g 0 n d os) := by
  refine ⟨rfl, rfl, rfl, ?_, fun k hk => ?_⟩
  · unfold sortWorldK; rw [size_grow, size_putRowK]; show w.heap.size ≤ w.heap.size + _; omega
  · unfold sortWorldK
    rw [heap_grow_old _ _ (by rw [size_putRowK]; show k < w.heap.size; omega)]
    have hne : g ≠ k := fun e => by omega
    simp [putRowK, putRow, mapBlock, Sort.ahead, Array.getElem?_modify, hne]

/-- What a sort by a comparison makes of a list. -/
def SortedBy (cf : Int × Int → Int × Int → Int) (zs ds : List (Int × Int)) : Prop := ds.Perm zs ∧ ds.Pairwise fun x y => ltOf cf y x = false
theorem sortedBy_of {cf : Int × Int → Int × Int → Int} {zs : List (Int × Int)} {d' : Array (Int × Int)} (hp : PermIn 0 zs.toArray.size zs.toArray d') (hs : SortedIn (ltOf cf) 0 zs.toArray.size d') : SortedBy cf zs d'.toList := by
  obtain ⟨h1, _, h3⟩ := hp
  refine ⟨?_, ?_⟩
  · have e1 : d'.extract 0 zs.toArray.size = d' := by rw [← h1]; simp
    rw [e1] at h3
    simpa using h3
  · rw [List.pairwise_iff_getElem]
    intro i j hi hj hij
    have := hs i j (Nat.zero_le _) hij (by rw [← h1]; simpa using hj)
    rw [getElem!_pos _ _ (by simpa using hj), getElem!_pos _ _ (by simpa using hi)] at this
    simpa using this

end Go.Proofs.YtiinmhfolfgobaaGreatDoor
namespace Go.Proofs.YtiinmhfolfgobaaGreatDoor
open Go.RowKit Go.Shelf Go.Sort

/-- The comparison that Union sorts by; one step of its merge; the merge. -/
def loC (x y : Int × Int) : Int := cmpI x.1 y.1
def lastS (out : List (Int × Int)) : Int × Int := out.getD (out.length - 1) (0, 0)
theorem lastS_mem {out : List (Int × Int)} (h : 0 < out.length) : lastS out ∈ out := by
  unfold lastS
  rw [List.getD_eq_getElem?_getD, List.getElem?_eq_getElem (by omega)]
  exact List.getElem_mem _
theorem isnan_any (a : Int) (w : World) : Calls Tryz.prog 247 #[.int .i64 a] w fun e w' => e = .returned (.bool false) ∧ w' = w := by
  go_enter Tryz.func247, Tryz.ntmps247
  go_wp2
  go_ret
  exact ⟨by simp, rfl⟩
theorem compare_any (a b : Int) (w : World) : Calls Tryz.prog 235 #[.int .i64 a, .int .i64 b] w fun e w' => e = .returned (.int .i64 (cmpI a b)) ∧ w' = w := by
  have h := fun x => isnan_any x w
  have H := Lib.hid h; clear h
  unfold cmpI
  by_cases h1 : a < b
  · rw [if_pos h1]
    go_enter Tryz.func235, Tryz.ntmps235
    go_wp2_with fail
    refine (H.out a).mono ?_
    rintro e w1 ⟨rfl, rfl⟩
    go_wp2_with fail
    refine (H.out b).mono ?_
    rintro e w1 ⟨rfl, rfl⟩
    go_wp2
    go_ret
    exact ⟨rfl, rfl⟩
  · rw [if_neg h1]
    have g1 : decide (a < b) = false := decide_eq_false h1
    by_cases h2 : b < a
    · rw [if_pos h2]
      go_enter Tryz.func235, Tryz.ntmps235
      go_wp2_with fail
      refine (H.out a).mono ?_
      rintro e w1 ⟨rfl, rfl⟩
      go_wp2_with fail
      refine (H.out b).mono ?_
      rintro e w1 ⟨rfl, rfl⟩
      go_wp2
      go_ret
      exact ⟨rfl, rfl⟩
    · rw [if_neg h2]
      have g2 : decide (b < a) = false := decide_eq_false h2
      go_enter Tryz.func235, Tryz.ntmps235
      go_wp2_with fail
      refine (H.out a).mono ?_
      rintro e w1 ⟨rfl, rfl⟩
      go_wp2_with fail
      refine (H.out b).mono ?_
      rintro e w1 ⟨rfl, rfl⟩
      go_wp2
      go_ret
      exact ⟨rfl, rfl⟩
theorem spans_of_own {w : World} {base : Nat} {A : Option Addr} {cap : Nat} {zs : List (Int × Int)} (h : w.ownsRow base 40 2 (.slice A zs.length cap) zs.length (cellsS zs)) (hm : zs.length ≤ 9223372036854775807) : SpansAt w A zs.length zs := by
  refine ⟨rfl, hm, fun hl => ?_⟩
  obtain ⟨g, c, e, _, hg⟩ := h.form hl
  cases e
  refine ⟨g, 0, rfl, hg, fun j hj => ?_⟩
  obtain ⟨h1, h2⟩ := cellsS_get zs j hj
  refine ⟨?_, ?_⟩
  · rw [Nat.zero_add, h.cellAt _ (by omega)]; exact h1
  · rw [Nat.zero_add, h.cellAt _ (by omega)]; exact h2
end Go.Proofs.YtiinmhfolfgobaaGreatDoor
