/- The words of SHA-256: what a block does. -/
import Derived.Test.YtlnboheahbfgfaaSha1
namespace Go.Proofs.Ytlnboheahbfgfaa
open Go.RowKit
set_option linter.unusedSimpArgs false
set_option linter.unusedVariables false

def WdAt (T : TypeId) (w : World) (g : Nat) (ws : List Int) : Prop := ∃ cur : Array Value, Blk w g T cur ∧ ∀ j, j < ws.length → cur[j]? = some (.int .u32 (ws.getD j 0))
def WdSl (w : World) (g off : Nat) (ws : List Int) : Prop := g < w.heap.size ∧ ∀ j, j < ws.length → w.cell? ⟨g, off + j, none⟩ = some (.int .u32 (ws.getD j 0))
theorem WdAt.below {T : TypeId} {w w' : World} {g : Nat} {ws : List Int} (h : WdAt T w g ws) (hb : Below w.heap.size w w') : WdAt T w' g ws := by
  obtain ⟨cur, hB, hc⟩ := h
  exact ⟨cur, Blk.keep hb hB, hc⟩
theorem WdSl.below {w w' : World} {g off : Nat} {ws : List Int} (h : WdSl w g off ws) (hb : Below w.heap.size w w') : WdSl w' g off ws :=
  ⟨Nat.lt_of_lt_of_le h.1 hb.size, fun j hj => cell_below hb (h.2 j hj)⟩
theorem WdAt.sl {T : TypeId} {w : World} {g : Nat} {ws : List Int} (h : WdAt T w g ws) : WdSl w g 0 ws := by
  obtain ⟨cur, hB, hc⟩ := h
  refine ⟨hB.lt, fun j hj => ?_⟩
  rw [Nat.zero_add, hB.cell]; exact hc j hj
theorem WdAt.set {T : TypeId} {w : World} {g : Nat} {ws : List Int} (h : WdAt T w g ws) (p : Nat) (y : Int) (hp : p < ws.length) : WdAt T (w.setCell ⟨g, p, none⟩ (.int .u32 y)) g (ws.set p y) := by
  obtain ⟨cur, hB, hc⟩ := h
  refine ⟨_, hB.set_ p (.int .u32 y), fun j hj => ?_⟩
  rw [List.length_set] at hj
  have h1 := hc j hj
  have s1 : p < cur.size := (Array.getElem?_eq_some_iff.1 (hc p hp)).1
  rw [List.getD_eq_getElem?_getD, List.getElem?_set]
  by_cases e : p = j
  · subst e
    rw [if_pos rfl, if_pos hp, Array.getElem?_setIfInBounds_self_of_lt s1]; rfl
  · rw [if_neg e, ← List.getD_eq_getElem?_getD, Array.getElem?_setIfInBounds_ne e]; exact h1
theorem WdAt.cells {T : TypeId} {w : World} {g : Nat} {ws : List Int} (h : WdAt T w g ws) (j : Nat) (hj : j < ws.length) : g < w.heap.size ∧ w.cell? ⟨g, j, none⟩ = some (.int .u32 (ws.getD j 0)) ∧ (∀ i, w.frozen? ⟨g, i, none⟩ = false) := by
  obtain ⟨cur, hB, hc⟩ := h
  exact ⟨hB.lt, (hB.cell j).trans (hc j hj), hB.frozen⟩
theorem WdAt.new {T : TypeId} (w : World) (n : Nat) : WdAt T (w.alloc (.cells (Array.replicate n (.int .u32 0)) T)) w.heap.size (List.replicate n 0) :=
  ⟨_, Blk.new _ _ _, fun j hj => by simp at hj; simp [hj, List.getD_eq_getElem?_getD]⟩
/-- All are words. -/
def InW (ws : List Int) : Prop := ∀ x ∈ ws, 0 ≤ x ∧ x < 4294967296
theorem InW.get {ws : List Int} (h : InW ws) (j : Nat) : 0 ≤ ws.getD j 0 ∧ ws.getD j 0 < 4294967296 := by
  by_cases hj : j < ws.length
  · exact h _ (by rw [List.getD_eq_getElem?_getD, List.getElem?_eq_getElem hj]; exact List.getElem_mem _)
  · rw [List.getD_eq_getElem?_getD, List.getElem?_eq_none (by omega)]; decide
theorem InW.set {ws : List Int} (h : InW ws) (p : Nat) {y : Int} (hy : 0 ≤ y ∧ y < 4294967296) : InW (ws.set p y) := fun x hx => by
  rcases List.mem_or_eq_of_mem_set hx with hx | rfl
  · exact h x hx
  · exact hy
/-- The words of a block of bytes; the others. -/
def beW (bs : List Int) (t : Nat) : Int := bits .or .u32 (bits .or .u32 (bits .or .u32 (IntKind.u32.wrap (IntKind.u32.wrap (bs.getD (4 * t) 0) * 16777216)) (IntKind.u32.wrap (IntKind.u32.wrap (bs.getD (4 * t + 1) 0) * 65536))) (IntKind.u32.wrap (IntKind.u32.wrap (bs.getD (4 * t + 2) 0) * 256))) (IntKind.u32.wrap (bs.getD (4 * t + 3) 0))
def mS (bs : List Int) : Nat → List Int
  | 0 => List.replicate 64 0
  | n + 1 => (mS bs n).set n (beW bs n)
def sg0 (x : Int) : Int := bits .xor .u32 (bits .xor .u32 (rotS x 7) (rotS x 18)) (x / 8)
def sg1 (x : Int) : Int := bits .xor .u32 (bits .xor .u32 (rotS x 17) (rotS x 19)) (x / 1024)
def wV4 (y z x u : Int) : Int := IntKind.u32.wrap (IntKind.u32.wrap (IntKind.u32.wrap (sg1 y + z) + sg0 x) + u)
def wV (ws : List Int) (t : Nat) : Int := wV4 (ws.getD (t - 2) 0) (ws.getD (t - 7) 0) (ws.getD (t - 15) 0) (ws.getD (t - 16) 0)
theorem u32_in (z : Int) : 0 ≤ IntKind.u32.wrap z ∧ IntKind.u32.wrap z < 4294967296 := by
  simp [IntKind.wrap, IntKind.bits, IntKind.signed]; omega
def schS (bs : List Int) : Nat → List Int
  | 0 => mS bs 16
  | n + 1 => (schS bs n).set (16 + n) (wV (schS bs n) (16 + n))
theorem mS_ok (bs : List Int) : ∀ n, (mS bs n).length = 64 ∧ InW (mS bs n)
  | 0 => ⟨rfl, fun x hx => by rw [(List.mem_replicate.1 hx).2]; decide⟩
  | n + 1 => ⟨by rw [mS, List.length_set]; exact (mS_ok bs n).1, (mS_ok bs n).2.set n (bits_u32 _ _ _)⟩
theorem schS_ok (bs : List Int) : ∀ n, (schS bs n).length = 64 ∧ InW (schS bs n)
  | 0 => mS_ok bs 16
  | n + 1 => ⟨by rw [schS, List.length_set]; exact (schS_ok bs n).1, (schS_ok bs n).2.set _ (u32_in _)⟩
/-- The eight words of a round. -/
structure St8 where
  (a b c d e f g h : Int)
def t1S (k w : Int) (s : St8) : Int := IntKind.u32.wrap (IntKind.u32.wrap (IntKind.u32.wrap (IntKind.u32.wrap (s.h + bits .xor .u32 (bits .xor .u32 (rotS s.e 6) (rotS s.e 11)) (rotS s.e 25)) + bits .xor .u32 (bits .and .u32 s.e s.f) (bits .and .u32 (bits .xor .u32 IntKind.u32.max s.e) s.g)) + k) + w)
def t2S (s : St8) : Int := (bits .xor .u32 (bits .xor .u32 (rotS s.a 2) (rotS s.a 13)) (rotS s.a 22) + bits .xor .u32 (bits .xor .u32 (bits .and .u32 s.a s.b) (bits .and .u32 s.a s.c)) (bits .and .u32 s.b s.c)) % 4294967296
def stepW (k w : Int) (s : St8) : St8 := ⟨(t1S k w s + t2S s) % 4294967296, s.a, s.b, s.c, (s.d + t1S k w s) % 4294967296, s.e, s.f, s.g⟩
def rndS (ks ws : List Int) (s : St8) : Nat → St8
  | 0 => s
  | n + 1 => stepW (ks.getD n 0) (ws.getD n 0) (rndS ks ws s n)
def St8.ok (s : St8) : Prop := InW [s.a, s.b, s.c, s.d, s.e, s.f, s.g, s.h]
theorem InW.cons {x : Int} {l : List Int} : InW (x :: l) ↔ (0 ≤ x ∧ x < 4294967296) ∧ InW l := by simp [InW]
theorem stepW_ok {k w : Int} {s : St8} (h : s.ok) : (stepW k w s).ok := by
  unfold St8.ok at h ⊢
  simp only [InW.cons] at h ⊢
  obtain ⟨h1, h2, h3, h4, h5, h6, h7, h8, h9⟩ := h
  exact ⟨by show 0 ≤ _ % 4294967296 ∧ _ % 4294967296 < 4294967296; omega, h1, h2, h3, by show 0 ≤ _ % 4294967296 ∧ _ % 4294967296 < 4294967296; omega, h5, h6, h7, h9⟩
theorem rndS_ok {ks ws : List Int} {s : St8} (h : s.ok) : ∀ n, (rndS ks ws s n).ok
  | 0 => h
  | n + 1 => stepW_ok (rndS_ok h n)
def addS (s t : St8) : St8 := ⟨IntKind.u32.wrap (s.a + t.a), IntKind.u32.wrap (s.b + t.b), IntKind.u32.wrap (s.c + t.c), IntKind.u32.wrap (s.d + t.d), IntKind.u32.wrap (s.e + t.e), IntKind.u32.wrap (s.f + t.f), IntKind.u32.wrap (s.g + t.g), IntKind.u32.wrap (s.h + t.h)⟩
theorem addS_ok (s t : St8) : (addS s t).ok := by
  unfold St8.ok
  simp only [InW.cons]
  exact ⟨u32_in _, u32_in _, u32_in _, u32_in _, u32_in _, u32_in _, u32_in _, u32_in _, by simp [InW]⟩
/-- The words behind a block. -/
def blkS (ks bs : List Int) (s : St8) : St8 := addS s (rndS ks (schS bs 48) s 64)
def St8.cells (s : St8) : Array Value := #[.int .u32 s.a, .int .u32 s.b, .int .u32 s.c, .int .u32 s.d, .int .u32 s.e, .int .u32 s.f, .int .u32 s.g, .int .u32 s.h]
/-- Eight words at a place. -/
def Wd8 (w : World) (g off : Nat) (s : St8) : Prop := g < w.heap.size ∧ w.cell? ⟨g, off, none⟩ = some (.int .u32 s.a) ∧ w.cell? ⟨g, off + 1, none⟩ = some (.int .u32 s.b) ∧ w.cell? ⟨g, off + 2, none⟩ = some (.int .u32 s.c) ∧ w.cell? ⟨g, off + 3, none⟩ = some (.int .u32 s.d) ∧ w.cell? ⟨g, off + 4, none⟩ = some (.int .u32 s.e) ∧ w.cell? ⟨g, off + 5, none⟩ = some (.int .u32 s.f) ∧ w.cell? ⟨g, off + 6, none⟩ = some (.int .u32 s.g) ∧ w.cell? ⟨g, off + 7, none⟩ = some (.int .u32 s.h)
theorem Wd8.below {w w' : World} {g off : Nat} {s : St8} (h : Wd8 w g off s) (hb : Below w.heap.size w w') : Wd8 w' g off s := by
  obtain ⟨h, a1, a2, a3, a4, a5, a6, a7, a8⟩ := h
  exact ⟨Nat.lt_of_lt_of_le h hb.size, cell_below hb a1, cell_below hb a2, cell_below hb a3, cell_below hb a4, cell_below hb a5, cell_below hb a6, cell_below hb a7, cell_below hb a8⟩
theorem Wd8.blk {w : World} {g : Nat} {T : TypeId} {s : St8} (h : Blk w g T s.cells) : Wd8 w g 0 s := by
  have hc := h.cell
  exact ⟨h.lt, hc 0, hc 1, hc 2, hc 3, hc 4, hc 5, hc 6, hc 7⟩
def RbRel (w : World) (g : Nat) (bs : List Int) (G : Nat) (i : Value) (wr : World) : Prop := ∃ q : Nat, q ≤ 16 ∧ G = 16 - q ∧ i = .int .i64 q ∧ WdAt 58 wr g (mS bs q) ∧ Below w.heap.size w wr
def RcRel (w : World) (g : Nat) (bs : List Int) (G : Nat) (i : Value) (wr : World) : Prop := ∃ q : Nat, q ≤ 48 ∧ G = 48 - q ∧ i = .int .i64 ((16 + q : Nat) : Int) ∧ WdAt 58 wr g (schS bs q) ∧ Below w.heap.size w wr
end Go.Proofs.Ytlnboheahbfgfaa
