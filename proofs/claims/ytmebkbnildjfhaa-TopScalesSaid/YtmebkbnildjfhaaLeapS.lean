/- slices.Backward over a table. -/
import Derived.Test.YtmebkbnildjfhaaLeapW
import Derived.Test.YtmebkbnildjfhaaCalmIn
import Derived.RangeFuncNested
import Derived.RangeFuncBox
import Derived.RangeFuncLeaves
import Derived.Shelf.Abstract
import Derived.OwnWalkIn
import Derived.TacticsInMore
import Derived.LoopNIn
import Derived.LoopIn
namespace Go.Proofs.Ytmebkbnildjfhaa
open Go.RowKit Go.Shelf
set_option linter.unusedSimpArgs false
set_option linter.unusedVariables false

attribute [local go_sem] Oper.semAt_some
/-- The elements that have come, the last one first. -/
def dwn (len k : Nat) : List {i : Nat // i < len} := (List.range k).filterMap fun j => if h : len - 1 - j < len then some ⟨len - 1 - j, h⟩ else none
theorem dwn_succ {len k : Nat} (h : k < len) : dwn len (k + 1) = dwn len k ++ [⟨len - 1 - k, by omega⟩] := by
  unfold dwn
  rw [List.range_succ, List.filterMap_append]
  simp only [List.filterMap_cons, List.filterMap_nil]
  rw [dif_pos (by omega)]
theorem dwn_length {len : Nat} : ∀ k, k ≤ len → (dwn len k).length = k
  | 0, _ => rfl
  | k + 1, h => by rw [dwn_succ (by omega), List.length_append, dwn_length k (by omega)]; rfl
theorem dwn_mem {len : Nat} {x : {i : Nat // i < len}} : ∀ k, k ≤ len → (x ∈ dwn len k ↔ len - k ≤ x.1)
  | 0, _ => by have := x.2; simp [dwn]; omega
  | k + 1, h => by
    rw [dwn_succ (by omega), List.mem_append, dwn_mem k (by omega), List.mem_singleton]
    have := x.2
    constructor
    · rintro (h | h)
      · omega
      · rw [h]; simp; omega
    · intro h2
      by_cases e : len - k ≤ x.1
      · exact .inl e
      · exact .inr (Subtype.ext (by simp; omega))
theorem dwn_last {len : Nat} {p0 : List {i : Nat // i < len}} {x : {i : Nat // i < len}} {k : Nat} (hk : k < len) (h : p0 ++ [x] = dwn len (k + 1)) : x.1 = len - 1 - k ∧ p0 = dwn len k := by
  rw [dwn_succ hk] at h
  obtain ⟨h1, h2⟩ := List.append_inj' h rfl
  injection h2 with h2
  exact ⟨by rw [h2], h1⟩
def encL {len : Nat} (zs : List (Int × Int)) (x : {i : Nat // i < len}) : Array Value := #[.int .i64 (x.1 : Int), .agg #[.int .i64 (zs.getD x.1 (0, 0)).1, .int .i64 (zs.getD x.1 (0, 0)).2]]
set_option maxRecDepth 100000 in
set_option maxHeartbeats 2000000 in
theorem back1 (F : Fence) (n : Nat) (hf : F.fn 102) (hro : F.round = none) (hn : 1 ≤ n) (l Bs n₀ b off len cap : Nat) (zs : List (Int × Int)) (hreach : len ≤ 64) (hb : b < n₀) (J Jx : List {i : Nat // i < len} → World → Prop)
    (hY : ∀ pre x W, J pre W → pre.length < len → YieldAt F (n - 1) Try.prog l (encL zs x) W fun e W' =>
      (e = .returned (.bool true) ∧ J (pre ++ [x]) W' ∧ Below n₀ W W') ∨ (e = .returned (.bool false) ∧ Jx (pre ++ [x]) W'))
    (W : World) (hn₀ : n₀ ≤ W.heap.size) (hBs : ∀ W', Below n₀ W W' → W'.cell? ⟨Bs, 0, none⟩ = some (.slice (some ⟨b, off, none⟩) len cap))
    (hc : ∀ j, j < len → W.cell? ⟨b, off + j * 2, none⟩ = some (.int .i64 (zs.getD j (0, 0)).1) ∧ W.cell? ⟨b, off + j * 2 + 1, none⟩ = some (.int .i64 (zs.getD j (0, 0)).2)) (h0 : J [] W) :
    CallsIn F n Try.prog 102 #[.func (.yield l) #[] #[], .pointer (some ⟨Bs, 0, none⟩)] W fun e W' => (∃ v, e = .returned v) ∧
      ((∃ ys, ys = dwn len len ∧ J ys W') ∨ (∃ pre, (∃ k, k < len ∧ pre = dwn len (k + 1)) ∧ Jx pre W')) := by
  refine callsIn_of_wp Try.func102 rfl hf ?_ hro
  simp only [Try.ntmps102, List.size_toArray, List.length_cons, List.length_nil, Nat.reduceAdd, Nat.reduceSub, Array.replicate_succ, Array.replicate_zero, List.push_toArray, List.append_toArray, List.nil_append, List.cons_append]
  have HC := Lib.hid hc; clear hc
  have HBS := Lib.hid hBs
  have cs := hBs W (Below.refl _ _)
  clear hBs
  have wl : IntKind.i64.wrap ((len : Int) - 1) = (len : Int) - 1 := IntWalk.i64_in _ (by omega)
  gi_wp2
  clear cs
  gi_loopw [3] (fun i wr => ∃ k : Nat, k ≤ len ∧ i = .int .i64 ((len : Int) - 1 - (k : Int)) ∧ J (dwn len k) wr ∧ Below n₀ W wr)
    (fun i _ => (intOf i + 1).toNat)
  case atStart => exact ⟨0, Nat.zero_le _, by simp, h0, Below.refl _ _⟩
  case round =>
    obtain ⟨k, hk, rfl, hJs, hnx⟩ := hrel
    by_cases hlt : k < len
    · obtain ⟨j, hj⟩ : ∃ j : Nat, (len : Int) - 1 - (k : Int) = (j : Int) := ⟨len - 1 - k, by omega⟩
      have hjl : j < len := by omega
      have hjk : j = len - 1 - k := by omega
      have c0 : wr.cell? ⟨b, off + j * 2, none⟩ = some (.int .i64 (zs.getD j (0, 0)).1) := (hnx.cell (p := ⟨b, off + j * 2, none⟩) hb).trans (HC.out j hjl).1
      have c1 : wr.cell? ⟨b, off + j * 2 + 1, none⟩ = some (.int .i64 (zs.getD j (0, 0)).2) := (hnx.cell (p := ⟨b, off + j * 2 + 1, none⟩) hb).trans (HC.out j hjl).2
      have cs := HBS.out wr hnx
      have hy := hY (dwn len k) ⟨j, hjl⟩ wr hJs (by rw [dwn_length k hk]; exact hlt)
      have hds : dwn len k ++ [⟨j, hjl⟩] = dwn len (k + 1) := by rw [dwn_succ hlt]; congr 2; exact Subtype.ext hjk
      rw [hds] at hy
      unfold encL at hy
      dsimp only at hy
      have HJK := Lib.hid hjk; have HDS := Lib.hid hds; clear hjk hds
      generalize zs.getD j (0, 0) = z at *
      obtain ⟨x, y⟩ := z
      dsimp only at c0 c1 hy
      obtain ⟨fn, tmps, assign, body, hy, hR⟩ := hy
      have gj : decide ((0 : Int) ≤ (j : Int)) = true := decide_eq_true (by omega)
      have wj : IntKind.i64.wrap ((j : Int) - 1) = (j : Int) - 1 := IntWalk.i64_in _ (by omega)
      rw [hj]
      have HJ := Lib.hid hj; clear hj
      gi_wp2
      refine hR.mono ?_
      rintro e W3 (⟨rfl, hJ3, hk3⟩ | ⟨rfl, hJx3⟩)
      · gi_wp2
        go_roundw
        case rel => exact ⟨k + 1, by omega, by have := HJ.out; first | omega | (simp; omega), hJ3, hnx.trans hk3⟩
        case measure => have := HJ.out; first | (simp [intOf]; done) | (simp [intOf]; omega)
      · gi_wp2
        refine bodyPost_ret (results_none rfl _ _ _) rfl ?_
        exact ⟨⟨_, rfl⟩, .inr ⟨_, ⟨k, hlt, rfl⟩, hJx3⟩⟩
    · obtain rfl : k = len := by omega
      obtain ⟨m1, hm1⟩ : ∃ m1 : Int, (k : Int) - 1 - (k : Int) = m1 := ⟨_, rfl⟩
      have gj : decide ((0 : Int) ≤ m1) = false := decide_eq_false (by omega)
      rw [hm1]
      clear hm1
      gi_wp2
      go_end0
      exact ⟨⟨_, rfl⟩, .inl ⟨_, rfl, hJs⟩⟩

/-- .. of no element: no round. -/
theorem back1_nil (F : Fence) (n : Nat) (hf : F.fn 102) (hro : F.round = none) (l Bs cap : Nat) (A : Option Addr) (J : List {i : Nat // i < 0} → World → Prop) (W : World) (hBs : W.cell? ⟨Bs, 0, none⟩ = some (.slice A 0 cap)) (h0 : J [] W) :
    CallsIn F n Try.prog 102 #[.func (.yield l) #[] #[], .pointer (some ⟨Bs, 0, none⟩)] W fun e W' => (∃ v, e = .returned v) ∧ J [] W' := by
  refine callsIn_of_wp Try.func102 rfl hf ?_ hro
  simp only [Try.ntmps102, List.size_toArray, List.length_cons, List.length_nil, Nat.reduceAdd, Nat.reduceSub, Array.replicate_succ, Array.replicate_zero, List.push_toArray, List.append_toArray, List.nil_append, List.cons_append]
  gi_wp2
  gi_loopw [3] (fun i wr => i = .int .i64 (-1) ∧ J [] wr) (fun _ _ => 0)
  case atStart => exact ⟨rfl, h0⟩
  case round =>
    obtain ⟨rfl, hJs⟩ := hrel
    gi_wp2
    go_end0
    exact ⟨⟨_, rfl⟩, hJs⟩
/-- slices.Backward(s): the slice value is boxed; the function value captures the box. -/
theorem backward_in (F : Fence) (n : Nat) (h5 : F.fn 75) (hro : F.round = none) (a : Option Addr) (len cap : Nat) (w : World) :
    CallsIn F n Try.prog 75 #[.slice a len cap] w fun e w' => e = .returned (.func (.func 102) #[] #[.pointer (some ⟨w.heap.size, 0, none⟩)]) ∧ w' = w.alloc (.cells #[.slice a len cap] 23) := by
  refine callsIn_of_wp Try.func75 rfl h5 ?_ hro
  simp only [Try.ntmps75, List.size_toArray, List.length_cons, List.length_nil, Nat.reduceAdd, Nat.reduceSub, Array.replicate_succ, Array.replicate_zero, List.push_toArray, List.append_toArray, List.nil_append, List.cons_append]
  gi_wp2
  go_ret
  exact ⟨rfl, rfl⟩
/-- Its value gives the elements, the last one first. -/
theorem back_stops (F : Fence) (n : Nat) (hf : F.fn 102) (hro : F.round = none) (hn : 1 ≤ n) (Bs : Nat) (A : Option Addr) (len cap : Nat) (zs : List (Int × Int)) (hreach : len ≤ 64) (n₀ : Nat) (w0 w : World) (hs : w0.heap.size ≤ n₀) (hBs : Bs < n₀) (hn₀ : n₀ ≤ w.heap.size)
    (hc : w.cell? ⟨Bs, 0, none⟩ = some (.slice A len cap)) (hI : PrAt w0 A len zs) (hw : Below w0.heap.size w0 w) :
    SeqStopsK F n Try.prog 102 #[.pointer (some ⟨Bs, 0, none⟩)] (encL (len := len) zs) (Below n₀) (fun ys => ys = dwn len len) (fun pre => ∃ k, k < len ∧ pre = dwn len (k + 1)) len w := fun l J Jx W hW hJ _ hY h0 => by
  obtain ⟨hz, _, hA⟩ := hI
  have hW' : Below n₀ w W := hW.mono hn₀
  by_cases hl : 0 < len
  · obtain ⟨b, off, rfl, hb, hcs⟩ := hA hl
    have hW0 : Below w0.heap.size w0 W := hw.trans (hW.mono (Nat.le_trans hs hn₀))
    exact back1 F n hf hro hn l Bs n₀ b off len cap zs hreach (by omega) J Jx hY W (Nat.le_trans hn₀ hW.size) (fun W' h => ((h.cell (p := ⟨Bs, 0, none⟩) hBs).trans (hW'.cell (p := ⟨Bs, 0, none⟩) hBs)).trans hc) (fun j hj => ⟨cell_below hW0 (hcs j hj).1, cell_below hW0 (hcs j hj).2⟩) h0
  · obtain rfl : len = 0 := by omega
    exact (back1_nil F n hf hro l Bs cap A J W ((hW'.cell (p := ⟨Bs, 0, none⟩) hBs).trans hc) h0).mono fun e W' ⟨he, hj⟩ => ⟨he, .inl ⟨_, rfl, hj⟩⟩

end Go.Proofs.Ytmebkbnildjfhaa
