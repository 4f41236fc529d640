/- Texts joined: Sim2, Sim3, TapK, MergeP, Sim4, SteerD, SteerE, SteerR -/
import Derived.Test.YtiinmhfolfgobaaGreatDoorJ22
import Derived.Test.YtiinmhfolfgobaaGreatDoorJ31
import Derived.Test.YtiinmhfolfgobaaGreatDoorJ8
import Derived.Test.YtiinmhfolfgobaaGreatDoorJ26
import Derived.Test.YtiinmhfolfgobaaGreatDoorJ24
import Derived.Test.YtiinmhfolfgobaaGreatDoorJ27
import Derived.Test.YtiinmhfolfgobaaGreatDoorJ9
import Derived.Test.YtiinmhfolfgobaaGreatDoorJ21
import Derived.Test.YtiinmhfolfgobaaGreatDoorJ25
namespace Go.Proofs.YtiinmhfolfgobaaGreatDoor
open Go.RowKit
set_option linter.unusedSimpArgs false
set_option linter.unusedVariables false

/-- What is known, cell by cell. -/
def kwC (k : Kw) : List Value := .bool k.1 :: k.2.cs
def PP (X : List Nat) (w W : World) : Prop := Past X w W
theorem PP.below {X : List Nat} {w W W' : World} (h : PP X w W) (hb : Below W.heap.size W W') : PP X w W' := Past.trans h (Past.below hb)
theorem Past.call {X : List Nat} {w W W' : World} (h : Past X w W) (hb : Below W.heap.size W W') : Past X w W' := Past.trans h (Past.below hb)
theorem setArr_size : ∀ (l : List Value) (i : Nat) (cs : Array Value), (setArr cs i l).size = cs.size
  | [], _, _ => rfl
  | v :: l, i, cs => (setArr_size l (i + 1) _).trans (by simp)
theorem setArr_get : ∀ (l : List Value) (i : Nat) (cs : Array Value) (j : Nat), i + l.length ≤ cs.size → (setArr cs i l)[j]? = if i ≤ j ∧ j < i + l.length then l[j - i]? else cs[j]?
  | [], i, cs, j, _ => by simp only [setArr, List.length_nil]; rw [if_neg (by omega)]
  | v :: l, i, cs, j, h => by
    simp only [setArr, List.length_cons] at *
    rw [setArr_get l (i + 1) _ j (by simp; omega), Array.getElem?_setIfInBounds]
    by_cases e : i = j
    · subst e
      rw [if_neg (by omega), if_pos rfl, if_pos (by omega), if_pos (by omega), Nat.sub_self]; rfl
    · rw [if_neg e]
      by_cases e2 : i + 1 ≤ j ∧ j < i + 1 + l.length
      · rw [if_pos e2, if_pos (by omega), show j - i = (j - (i + 1)) + 1 by omega]; rfl
      · rw [if_neg e2, if_neg (by omega)]
end Go.Proofs.YtiinmhfolfgobaaGreatDoor
namespace Go.Proofs.YtiinmhfolfgobaaGreatDoor
open Go.RowKit
set_option linter.unusedSimpArgs false
set_option linter.unusedVariables false

theorem setAll_pastX {X : List Nat} {W : World} {g : Nat} (hg : g ∈ X) : ∀ (l : List Value) (i : Nat) (w : World), Past X W w → Past X W (setAll w g i l)
  | [], _, _, h => h
  | _ :: l, i, w, h => setAll_pastX hg l (i + 1) _ (h.setIn hg _)
theorem Past.transF {X : List Nat} {g : Nat} {w a c : World} (h : Past X w a) (k : Past (g :: X) a c) (hg : w.heap.size ≤ g) : Past X w c := by
  refine ⟨Nat.le_trans h.1 k.1, k.2.1.trans h.2.1, k.2.2.1.trans h.2.2.1, k.2.2.2.1.trans h.2.2.2.1, fun q hq hn => ?_⟩
  have hm : q ∉ g :: X := fun hm => by
    rcases List.mem_cons.1 hm with e | e
    · omega
    · exact hn e
  exact (k.2.2.2.2 q (Nat.lt_of_lt_of_le hq h.1) hm).trans (h.2.2.2.2 q hq hn)
theorem Past.more {X Y : List Nat} {w w' : World} (hX : ∀ x ∈ X, x ∈ Y) (h : Past X w w') : Past Y w w' := ⟨h.1, h.2.1, h.2.2.1, h.2.2.2.1, fun k hk hn => h.2.2.2.2 k hk (fun hm => hn (hX k hm))⟩
end Go.Proofs.YtiinmhfolfgobaaGreatDoor
namespace Go.Proofs.YtiinmhfolfgobaaGreatDoor
open Go.RowKit
set_option linter.unusedSimpArgs false
set_option linter.unusedVariables false

theorem Kp.tap {w W W' : World} {b : Nat} (h : Kp w W) (hg : W.grownBy W' (some b)) (hb : w.heap.size ≤ b) : Kp w W' := below_grown h hg hb (Below.size h)
theorem Blk.tap {w w' : World} {g b : Nat} {t : TypeId} {cs : Array Value} (h : Blk w g t cs) (hg : w.grownBy w' (some b)) (hn : g ≠ b) : Blk w' g t cs := Blk.keepG hg h hn
end Go.Proofs.YtiinmhfolfgobaaGreatDoor
namespace Go.Proofs.YtiinmhfolfgobaaGreatDoor
open Go.RowKit Go.Shelf Go.Sort
set_option linter.unusedSimpArgs false
set_option linter.unusedVariables false

def kCells (ks : List K6) : List Value := ks.flatMap K6.cs
theorem kCells_snoc (ks : List K6) (x : K6) : kCells (ks ++ [x]) = kCells ks ++ x.cs := by simp [kCells]
theorem kCells_get (ks : List K6) : ∀ (j i : Nat), j < ks.length → i < 6 → (kCells ks)[j * 6 + i]? = (ks.getD j .zero).cs[i]? := by
  induction ks with
  | nil => intro j i h; simp at h
  | cons x xs ih =>
    intro j i hj hi
    have e : kCells (x :: xs) = x.cs ++ kCells xs := rfl
    have hc : x.cs.length = 6 := rfl
    cases j with
    | zero => rw [e, List.getElem?_append_left (by omega)]; simp
    | succ j => rw [e, List.getElem?_append_right (by omega), hc, show (j + 1) * 6 + i - 6 = j * 6 + i by omega, ih j i (by simpa using hj) hi]; simp
/-- A row of what is known of one's own. -/
def RowK (w : World) (base : Nat) (v : Value) (ks : List K6) : Prop := w.ownsRow base 44 6 v ks.length (kCells ks)
theorem RowK.nil {w : World} {base : Nat} : RowK w base (.slice none 0 0) [] := World.ownsRow_nil _ _ _ _
theorem RowK.lt {w : World} {base : Nat} {v : Value} {ks : List K6} (h : RowK w base v ks) : ∀ k, v.ownBlock = some k → base ≤ k ∧ k < w.heap.size := World.ownsRow.lt h
theorem RowK.kept {w w' : World} {base : Nat} {v : Value} {ks : List K6} {row : Option Nat} (h : RowK w base v ks) (hg : w.grownBy w' row) (hn : ∀ k, v.ownBlock = some k → some k ≠ row) : RowK w' base v ks :=
  World.ownsRow.kept h hg (by
    cases hv : v.ownBlock with
    | none => exact .inl rfl
    | some k => exact .inr (hn k hv))
theorem RowK.below {w w' : World} {base : Nat} {v : Value} {ks : List K6} (h : RowK w base v ks) (hb : Below w.heap.size w w') : RowK w' base v ks := RowK.kept h (row := none) (grown_below hb) (fun k _ e => by cases e)
theorem RowK.tap {w w' : World} {base b : Nat} {v : Value} {ks : List K6} (h : RowK w base v ks) (hg : w.grownBy w' (some b)) (hb : b < base) : RowK w' base v ks := RowK.kept h hg (fun k hk e => by have := (RowK.lt h k hk).1; injection e with e; omega)
theorem RowK.known {w : World} {base : Nat} {A : Option Addr} {cap : Nat} {ks : List K6} (h : RowK w base (.slice A ks.length cap) ks) (hm : ks.length ≤ 9223372036854775807) : KnAt w A ks.length ks := by
  refine ⟨rfl, hm, fun hl => ?_⟩
  obtain ⟨g, c, e, _, hg⟩ := World.ownsRow.form h hl
  cases e
  refine ⟨g, 0, rfl, hg, fun j hj => ?_⟩
  have hc := fun i (hi : i < 6) => World.ownsRow.cellAt h (j * 6 + i) (by omega)
  have hv := fun i (hi : i < 6) => (hc i hi).trans (kCells_get ks j i hj hi)
  rw [Nat.zero_add]
  exact ⟨hv 0 (by omega), hv 1 (by omega), hv 2 (by omega), hv 3 (by omega), hv 4 (by omega), hv 5 (by omega)⟩
theorem infoKn : (Tryz.prog.info? 44).map (fun i => (i.zero, i.size, i.bytes)) = some (some (.agg #[.int .i64 0, .int .i64 0, .int .i64 0, .int .i64 0, .int .i64 0, .int .i64 0]), 6, 48) := by kernel_rfl
/-- What the law makes. -/
def KOk (k : K6) : Prop := ∃ d, 0 ≤ d ∧ d < 60000 ∧ k.at_ = 70000 - d ∧ k.pp = 100000 ∧ k.le = 0 ∧ k.re = 0 ∧ -1000000 ≤ k.lo ∧ k.lo ≤ k.hi ∧ k.hi ≤ 1000000
theorem inD_el {d : Int} (h0 : 0 ≤ d) (h1 : d < 60000) : inD d 100000 = true := by simp [inD]; omega
theorem now_ok {k : K6} {d : Int} (h0 : 0 ≤ d) (h1 : d < 60000) (ha : k.at_ = 70000 - d) (hp : k.pp = 100000) (hl : k.le = 0) (hr : k.re = 0) (b0 : -1000000 ≤ k.lo) (b1 : k.lo ≤ k.hi) (b2 : k.hi ≤ 1000000) :
    nowK 70000 k = (k.lo + elLo d 100000, k.hi + elHi d 100000, 0) ∧ vS (k.lo + elLo d 100000) (k.hi + elHi d 100000) = true := by
  have l0 := lo_pos h0 (show (0 : Int) ≤ 100000 by decide) (by decide)
  have l1 := lo_le h0 (show (0 : Int) ≤ 100000 by decide) (by decide)
  have l2 := le_hi h0 (show (0 : Int) ≤ 100000 by decide) (by decide)
  have l3 := hi_two h0 (show (0 : Int) ≤ 100000 by decide) (by decide)
  have hv : vS k.lo k.hi = true := vS_true.2 (by omega)
  have hv2 : vS (k.lo + elLo d 100000) (k.hi + elHi d 100000) = true := vS_true.2 (by omega)
  refine ⟨?_, hv2⟩
  have hk : kE k.at_ k.lo k.hi k.pp k.le k.re = 0 := by
    unfold kE
    rw [if_neg (by rw [hv]; simp), if_pos ⟨by rw [ha]; simp [vT]; omega, by omega, by omega, by rw [hl]; decide, by rw [hr]; decide⟩]
  unfold nowK nowT
  rw [if_neg (by rw [hk]; simp), if_neg (by omega), if_neg (by simp [vT]), hv, show (70000 : Int) - k.at_ = d by omega, hp, inD_el h0 h1]
  unfold opT
  simp [hv2]
theorem KOk.now {k : K6} (h : KOk k) : (nowK 70000 k).2.2 = 0 ∧ vS (spK 70000 k).1 (spK 70000 k).2 = true := by
  obtain ⟨d, h0, h1, ha, hp, hl, hr, b0, b1, b2⟩ := h
  obtain ⟨e, v⟩ := now_ok h0 h1 ha hp hl hr b0 b1 b2
  unfold spK
  rw [e]
  exact ⟨rfl, v⟩
end Go.Proofs.YtiinmhfolfgobaaGreatDoor
namespace Go.Proofs.YtiinmhfolfgobaaGreatDoor
open Go.RowKit Go.Shelf Go.Sort
set_option linter.unusedSimpArgs false
set_option linter.unusedVariables false

/-- What the sources are known to say, in memory. -/
def SrcAt (cur : Array Value) (l : List Kw) : Prop := cur.size = l.length * 7 ∧ ∀ j, j < l.length → ∀ i, i < 7 → cur[j * 7 + i]? = (kwC (l.getD j (false, .zero)))[i]?
theorem knowns_next {l : List Kw} {q : Nat} (h : q < l.length) : knowns (l.take (q + 1)) = if (l.getD q (false, .zero)).1 then knowns (l.take q) ++ [(l.getD q (false, .zero)).2] else knowns (l.take q) := by
  have e : l.take (q + 1) = l.take q ++ [l.getD q (false, .zero)] := by
    rw [List.take_add_one, List.getElem?_eq_getElem h, List.getD_eq_getElem?_getD, List.getElem?_eq_getElem h]; rfl
  rw [e, knowns_app]
  rcases hk : l.getD q (false, .zero) with ⟨b, k⟩
  cases b <;> simp [knowns]
theorem Past.toBelow {w w' : World} (h : Past [] w w') : Below w.heap.size w w' := ⟨h.2.1, h.2.2.1, h.2.2.2.1, h.1, fun k hk => h.2.2.2.2 k hk (by simp)⟩
theorem own_belowK {w w' : World} {base m : Nat} {v : Value} {ks : List K6} (h : RowK w base v ks) (hm : m = ks.length) (hb : Below w.heap.size w w') : w'.ownsRow base 44 6 v m (kCells ks) := by
  subst hm; exact RowK.below h hb
def MeRel (w : World) (l : List Kw) (n : Nat) (G : Nat) (v i : Value) (wr : World) : Prop := ∃ (q m : Nat) (A : Option Addr) (c : Nat), q ≤ n ∧ G = n - q ∧ i = .int .i64 q ∧ v = .slice A m c ∧ m = (knowns (l.take q)).length ∧ RowK wr w.heap.size (.slice A m c) (knowns (l.take q)) ∧ Below w.heap.size w wr
end Go.Proofs.YtiinmhfolfgobaaGreatDoor
namespace Go.Proofs.YtiinmhfolfgobaaGreatDoor
open Go.RowKit

end Go.Proofs.YtiinmhfolfgobaaGreatDoor
namespace Go.Proofs.YtiinmhfolfgobaaGreatDoor
open Go.RowKit

end Go.Proofs.YtiinmhfolfgobaaGreatDoor
namespace Go.Proofs.YtiinmhfolfgobaaGreatDoor
open Go.RowKit

theorem read_any (aim rate : Int) (set held : Bool) (at_ shown t lo hi : Int) (w : World) :
    Calls Tryz.prog 136 #[.agg #[.int .i64 aim, .int .i64 rate, .bool set, .bool held, .int .i64 at_, .int .i64 shown], .int .i64 t, .agg #[.int .i64 lo, .int .i64 hi]] w (ReadPost w (rdV aim rate set at_ shown t lo hi) (rdE aim rate set at_ shown t lo hi)) := by
  rcases chk_cases aim rate at_ shown with h | h
  · rcases h2 : vS lo hi
    · exact read_e2 aim rate set held at_ shown t lo hi w h h2
    · rcases h3 : vT t
      · exact read_e3 aim rate set held at_ shown t lo hi w h h2 h3
      · cases set
        · exact read_unset aim rate held at_ shown t lo hi w h h2 h3
        · by_cases h4 : t < at_
          · exact read_e4 aim rate held at_ shown t lo hi w h h2 h3 h4
          · exact read_set aim rate held at_ shown t lo hi w h h2 h3 (by omega)
  · exact read_e1 aim rate set held at_ shown t lo hi w h
end Go.Proofs.YtiinmhfolfgobaaGreatDoor
