/- Plain: what several know together holds true time, if most of them are right. -/
import Derived.Test.YtlnboheahbfgfaaGreatJ25
import Derived.Test.YtlnboheahbfgfaaGreatJ29
import Derived.Test.YtlnboheahbfgfaaGreatTapK
namespace Go.Proofs.YtlnboheahbfgfaaGreat
open Go.RowKit Go.Shelf Go.Sort
set_option linter.unusedSimpArgs false
set_option linter.unusedVariables false

def kCells (ks : List K6) : List Value := ks.flatMap K6.cs
theorem kCells_snoc (ks : List K6) (x : K6) : kCells (ks ++ [x]) = kCells ks ++ x.cs := by simp [kCells]
theorem kCells_get (ks : List K6) : ∀ (j i : Nat), j < ks.length → i < 6 → (kCells ks)[j * 6 + i]? = (ks.getD j .zero).cs[i]? := by
 induction ks with
 | nil => intro j i h; simp at h
 | cons x xs ih =>
  intro j i hj hi
  have e : kCells (x :: xs) = x.cs ++ kCells xs := rfl
  have hc : x.cs.length = 6 := rfl
  cases j with
  | zero => rw [e, List.getElem?_append_left (by omega)]; simp
  | succ j => rw [e, List.getElem?_append_right (by omega), hc, show (j + 1) * 6 + i - 6 = j * 6 + i by omega, ih j i (by simpa using hj) hi]; simp
def RowK (w : World) (base : Nat) (v : Value) (ks : List K6) : Prop := w.ownsRow base 43 6 v ks.length (kCells ks)
theorem RowK.nil {w : World} {base : Nat} : RowK w base (.slice none 0 0) [] := World.ownsRow_nil _ _ _ _
theorem RowK.lt {w : World} {base : Nat} {v : Value} {ks : List K6} (h : RowK w base v ks) : ∀ k, v.ownBlock = some k → base ≤ k ∧ k < w.heap.size := World.ownsRow.lt h
theorem RowK.kept {w w' : World} {base : Nat} {v : Value} {ks : List K6} {row : Option Nat} (h : RowK w base v ks) (hg : w.grownBy w' row) (hn : ∀ k, v.ownBlock = some k → some k ≠ row) : RowK w' base v ks :=
 World.ownsRow.kept h hg (by
  cases hv : v.ownBlock with
  | none => exact .inl rfl
  | some k => exact .inr (hn k hv))
theorem RowK.below {w w' : World} {base : Nat} {v : Value} {ks : List K6} (h : RowK w base v ks) (hb : Below w.heap.size w w') : RowK w' base v ks := RowK.kept h (row := none) (grown_below hb) (fun k _ e => by cases e)
theorem RowK.tap {w w' : World} {base b : Nat} {v : Value} {ks : List K6} (h : RowK w base v ks) (hg : w.grownBy w' (some b)) (hb : b < base) : RowK w' base v ks := RowK.kept h hg (fun k hk e => by have := (RowK.lt h k hk).1; injection e with e; omega)
theorem RowK.known {w : World} {base : Nat} {A : Option Addr} {cap : Nat} {ks : List K6} (h : RowK w base (.slice A ks.length cap) ks) (hm : ks.length ≤ 9223372036854775807) : KnAt w A ks.length ks := by
 refine ⟨rfl, hm, fun hl => ?_⟩
 obtain ⟨g, c, e, _, hg⟩ := World.ownsRow.form h hl
 cases e
 refine ⟨g, 0, rfl, hg, fun j hj => ?_⟩
 have hc := fun i (hi : i < 6) => World.ownsRow.cellAt h (j * 6 + i) (by omega)
 have hv := fun i (hi : i < 6) => (hc i hi).trans (kCells_get ks j i hj hi)
 rw [Nat.zero_add]
 exact ⟨hv 0 (by omega), hv 1 (by omega), hv 2 (by omega), hv 3 (by omega), hv 4 (by omega), hv 5 (by omega)⟩
theorem infoKn : (Tryz.prog.info? 43).map (fun i => (i.zero, i.size, i.bytes)) = some (some (.agg #[.int .i64 0, .int .i64 0, .int .i64 0, .int .i64 0, .int .i64 0, .int .i64 0]), 6, 48) := by kernel_rfl
def KOk (k : K6) : Prop := ∃ d, 0 ≤ d ∧ d < 60000 ∧ k.at_ = 70000 - d ∧ k.pp = 100000 ∧ k.le = 0 ∧ k.re = 0 ∧ -1000000 ≤ k.lo ∧ k.lo ≤ k.hi ∧ k.hi ≤ 1000000
theorem inD_el {d : Int} (h0 : 0 ≤ d) (h1 : d < 60000) : inD d 100000 = true := by simp [inD]; omega
theorem now_ok {k : K6} {d : Int} (h0 : 0 ≤ d) (h1 : d < 60000) (ha : k.at_ = 70000 - d) (hp : k.pp = 100000) (hl : k.le = 0) (hr : k.re = 0) (b0 : -1000000 ≤ k.lo) (b1 : k.lo ≤ k.hi) (b2 : k.hi ≤ 1000000) :
  nowK 70000 k = (k.lo + elLo d 100000, k.hi + elHi d 100000, 0) ∧ vS (k.lo + elLo d 100000) (k.hi + elHi d 100000) = true := by
 have l0 := lo_pos h0 (show (0 : Int) ≤ 100000 by decide) (by decide)
 have l1 := lo_le h0 (show (0 : Int) ≤ 100000 by decide) (by decide)
 have l2 := le_hi h0 (show (0 : Int) ≤ 100000 by decide) (by decide)
 have l3 := hi_two h0 (show (0 : Int) ≤ 100000 by decide) (by decide)
 have hv : vS k.lo k.hi = true := vS_true.2 (by omega)
 have hv2 : vS (k.lo + elLo d 100000) (k.hi + elHi d 100000) = true := vS_true.2 (by omega)
 refine ⟨?_, hv2⟩
 have hk : kE k.at_ k.lo k.hi k.pp k.le k.re = 0 := by
  unfold kE
  rw [if_neg (by rw [hv]; simp), if_pos ⟨by rw [ha]; simp [vT]; omega, by omega, by omega, by rw [hl]; decide, by rw [hr]; decide⟩]
 unfold nowK nowT
 rw [if_neg (by rw [hk]; simp), if_neg (by omega), if_neg (by simp [vT]), hv, show (70000 : Int) - k.at_ = d by omega, hp, inD_el h0 h1]
 unfold opT
 simp [hv2]
theorem KOk.now {k : K6} (h : KOk k) : (nowK 70000 k).2.2 = 0 ∧ vS (spK 70000 k).1 (spK 70000 k).2 = true := by
 obtain ⟨d, h0, h1, ha, hp, hl, hr, b0, b1, b2⟩ := h
 obtain ⟨e, v⟩ := now_ok h0 h1 ha hp hl hr b0 b1 b2
 unfold spK
 rw [e]
 exact ⟨rfl, v⟩
end Go.Proofs.YtlnboheahbfgfaaGreat
