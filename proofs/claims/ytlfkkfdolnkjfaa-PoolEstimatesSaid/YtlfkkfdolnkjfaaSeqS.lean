/- Walks inside a fence: slices.Values over a slice of spans, slices.AppendSeq, slices.Collect of it. -/
import Derived.Deep.AppendLies
import Derived.LoopIn
import Derived.LoopNIn
import Derived.Maps.AppendAt
import Derived.OwnWalkIn
import Derived.RangeFuncBox
import Derived.RangeFuncLeaves
import Derived.RangeFuncNested
import Derived.Shelf.Abstract
import Derived.TacticsInMore
import Derived.Test.YtlfkkfdolnkjfaaJ27
namespace Go.Proofs.Ytlfkkfdolnkjfaa
open Go.RowKit Go.Shelf

attribute [local go_sem] Oper.semAt_some

/-- A span's value, and its cells. -/
def encS (x : Int × Int) : Array Value := #[.agg #[.int .i64 x.1, .int .i64 x.2]]
def cellsS (zs : List (Int × Int)) : List Value := zs.flatMap fun z => [.int .i64 z.1, .int .i64 z.2]
theorem cellsS_length (zs : List (Int × Int)) : (cellsS zs).length = zs.length * 2 := by
  induction zs with
  | nil => rfl
  | cons z zs ih => simp only [cellsS, List.flatMap_cons, List.length_append, List.length_cons, List.length_nil] at *; omega
theorem cellsS_snoc (zs : List (Int × Int)) (z : Int × Int) : cellsS (zs ++ [z]) = cellsS zs ++ [.int .i64 z.1, .int .i64 z.2] := by simp [cellsS]
theorem take_snoc' {α : Type} (d : α) (zs : List α) {k : Nat} (h : k < zs.length) : zs.take (k + 1) = zs.take k ++ [zs.getD k d] := by
  rw [List.take_succ_eq_append_getElem h, List.getD_eq_getElem?_getD, List.getElem?_eq_getElem h]; rfl

set_option maxRecDepth 100000 in
set_option maxHeartbeats 2000000 in
theorem values1S (F : Fence) (n : Nat) (h7 : F.fn 108) (hro : F.round = none) (hn : 1 ≤ n) (l Bs n₀ b off len cap : Nat) (zs : List (Int × Int)) (hz : zs.length = len) (hreach : len * 16 ≤ 140737488351232) (hb : b < n₀) (J Jx : List (Int × Int) → World → Prop)
    (hJ : ∀ s W o, J s W → J s (W.alloc o))
    (hY : ∀ pre x W, J pre W → pre.length < len → YieldAt F (n - 1) Try.prog l (encS x) W fun e W' =>
      (e = .returned (.bool true) ∧ J (pre ++ [x]) W' ∧ Below n₀ W W') ∨ (e = .returned (.bool false) ∧ Jx (pre ++ [x]) W'))
    (W : World) (hn₀ : n₀ ≤ W.heap.size) (hBs : W.cell? ⟨Bs, 0, none⟩ = some (.slice (some ⟨b, off, none⟩) len cap))
    (hc : ∀ j, j < len → W.cell? ⟨b, off + j * 2, none⟩ = some (.int .i64 (zs.getD j (0, 0)).1) ∧ W.cell? ⟨b, off + j * 2 + 1, none⟩ = some (.int .i64 (zs.getD j (0, 0)).2)) (h0 : J [] W) :
    CallsIn F n Try.prog 108 #[.func (.yield l) #[] #[], .pointer (some ⟨Bs, 0, none⟩)] W fun e W' => (∃ v, e = .returned v) ∧
      ((∃ ys, ys = zs ∧ J ys W') ∨ (∃ pre, pre <+: zs ∧ Jx pre W')) := by
  have HZ := Lib.hid hz
  refine callsIn_of_wp Try.func108 rfl h7 ?_ hro
  simp only [Try.ntmps108, List.size_toArray, List.length_cons, List.length_nil, Nat.reduceAdd, Nat.reduceSub, Array.replicate_succ, Array.replicate_zero, List.push_toArray, List.append_toArray, List.nil_append, List.cons_append]
  have HC := Lib.hid hc; clear hc
  gi_wp2
  gi_loopw [7] (fun i wr => ∃ k : Nat, k ≤ len ∧ i = .int .i64 k ∧ J (zs.take k) wr ∧ Below n₀ W wr)
    (fun i _ => len - (intOf i).toNat)
  case atStart => exact ⟨0, Nat.zero_le _, rfl, h0, Below.refl _ _⟩
  case round =>
    obtain ⟨k, hk, rfl, hJs, hnx⟩ := hrel
    by_cases hlt : k < len
    · have hts := Lib.hid (take_snoc' (0, 0) zs (k := k) (by omega))
      have c0 : wr.cell? ⟨b, off + k * 2, none⟩ = some (.int .i64 (zs.getD k (0, 0)).1) := (hnx.cell (p := ⟨b, off + k * 2, none⟩) hb).trans (HC.out k hlt).1
      have c1 : wr.cell? ⟨b, off + k * 2 + 1, none⟩ = some (.int .i64 (zs.getD k (0, 0)).2) := (hnx.cell (p := ⟨b, off + k * 2 + 1, none⟩) hb).trans (HC.out k hlt).2
      generalize zs.getD k (0, 0) = z at *
      obtain ⟨x, y⟩ := z
      dsimp only at c0 c1
      have hy := hY (zs.take k) (x, y) (wr.alloc (.cells #[.int .i64 x, .int .i64 y] 35)) (hJ _ _ _ hJs) (by rw [List.length_take]; omega)
      unfold encS at hy
      dsimp only at hy
      obtain ⟨fn, tmps, assign, body, hy, hR⟩ := hy
      have hsz := hnx.size
      gi_wp2
      refine hR.mono ?_
      rintro e W3 (⟨rfl, hJ3, hk3⟩ | ⟨rfl, hJx3⟩)
      · gi_wp2
        go_roundw
        case rel => exact ⟨k + 1, by omega, by simp, by rw [hts.out]; exact hJ3, hnx.trans (((Below.refl n₀ wr).alloc (by omega) _).trans hk3)⟩
        case measure => simp [intOf]; omega
      · gi_wp2
        refine bodyPost_ret (results_none rfl _ _ _) rfl ?_
        exact ⟨⟨_, rfl⟩, .inr ⟨_, by rw [← hts.out]; exact List.take_prefix _ _, hJx3⟩⟩
    · obtain rfl : k = len := by omega
      gi_wp2
      go_end0
      exact ⟨⟨_, rfl⟩, .inl ⟨_, rfl, by rw [← HZ.out, List.take_length] at hJs; exact hJs⟩⟩

/-- .. of no span: no round. -/
theorem values1S_nil (F : Fence) (n : Nat) (h7 : F.fn 108) (hro : F.round = none) (l Bs cap : Nat) (A : Option Addr) (J : List (Int × Int) → World → Prop) (W : World) (hBs : W.cell? ⟨Bs, 0, none⟩ = some (.slice A 0 cap)) (h0 : J [] W) :
    CallsIn F n Try.prog 108 #[.func (.yield l) #[] #[], .pointer (some ⟨Bs, 0, none⟩)] W fun e W' => (∃ v, e = .returned v) ∧ J [] W' := by
  refine callsIn_of_wp Try.func108 rfl h7 ?_ hro
  simp only [Try.ntmps108, List.size_toArray, List.length_cons, List.length_nil, Nat.reduceAdd, Nat.reduceSub, Array.replicate_succ, Array.replicate_zero, List.push_toArray, List.append_toArray, List.nil_append, List.cons_append]
  gi_wp2
  gi_loopw [7] (fun i wr => i = .int .i64 0 ∧ J [] wr) (fun _ _ => 0)
  case atStart => exact ⟨rfl, h0⟩
  case round =>
    obtain ⟨rfl, hJs⟩ := hrel
    gi_wp2
    go_end0
    exact ⟨⟨_, rfl⟩, hJs⟩
/-- slices.Values(s): the slice value is boxed; the function value captures the box. -/
theorem valuesS_in (F : Fence) (n : Nat) (h5 : F.fn 70) (hro : F.round = none) (a : Option Addr) (len cap : Nat) (w : World) :
    CallsIn F n Try.prog 70 #[.slice a len cap] w fun e w' => e = .returned (.func (.func 108) #[] #[.pointer (some ⟨w.heap.size, 0, none⟩)]) ∧ w' = w.alloc (.cells #[.slice a len cap] 43) := by
  refine callsIn_of_wp Try.func70 rfl h5 ?_ hro
  simp only [Try.ntmps70, List.size_toArray, List.length_cons, List.length_nil, Nat.reduceAdd, Nat.reduceSub, Array.replicate_succ, Array.replicate_zero, List.push_toArray, List.append_toArray, List.nil_append, List.cons_append]
  gi_wp2
  go_ret
  exact ⟨rfl, rfl⟩
/-- Its value gives the spans, in their order. -/
theorem valuesS_stops (F : Fence) (n : Nat) (h7 : F.fn 108) (hro : F.round = none) (hn : 1 ≤ n) (Bs : Nat) (A : Option Addr) (len cap : Nat) (zs : List (Int × Int)) (hreach : len * 16 ≤ 140737488351232) (w0 w : World) (hBs : Bs < w.heap.size) (hn₀ : w0.heap.size ≤ w.heap.size)
    (hc : w.cell? ⟨Bs, 0, none⟩ = some (.slice A len cap)) (hI : SpansAt w0 A len zs) (hw : Below w0.heap.size w0 w) :
    SeqStopsK F n Try.prog 108 #[.pointer (some ⟨Bs, 0, none⟩)] encS (Below w0.heap.size) (fun ys => ys = zs) (fun pre => pre <+: zs) zs.length w := fun l J Jx W hW hJ _ hY h0 => by
  have hc' := (hW.cell (p := ⟨Bs, 0, none⟩) hBs).trans hc
  have hJ' : ∀ s W o, J s W → J s (W.alloc o) := fun s W o h => hJ s W _ none h (World.grownBy_alloc W o none) (fun r e => by cases e)
  obtain ⟨hz, _, hA⟩ := hI
  by_cases hl : 0 < len
  · obtain ⟨b, off, rfl, hb, hcs⟩ := hA hl
    subst hz
    have hW0 : Below w0.heap.size w0 W := hw.trans (hW.mono hn₀)
    exact values1S F n h7 hro hn l Bs w0.heap.size b off _ cap zs rfl hreach hb J Jx hJ' hY W hW0.size hc' (fun j hj => ⟨cell_below hW0 (hcs j hj).1, cell_below hW0 (hcs j hj).2⟩) h0
  · obtain rfl : len = 0 := by omega
    obtain rfl : zs = [] := List.eq_nil_of_length_eq_zero hz
    exact (values1S_nil F n h7 hro l Bs cap A J W hc' h0).mono fun e W' ⟨he, hj⟩ => ⟨he, .inl ⟨_, rfl, hj⟩⟩

theorem infoSpan : (Try.prog.info? 35).map (fun i => (i.zero, i.size, i.bytes)) = some (some (.agg #[.int .i64 0, .int .i64 0]), 2, 16) := by kernel_rfl
theorem blk_own {β : Type} (B : Nat) (t : TypeId) (f : β → Array Value) : Own (fun s W => Blk W B t (f s)) := fun s X Y row hs hg hrow => by
  refine (hg.block B hs.lt (fun e => ?_)).trans hs
  obtain ⟨o, ho, hc⟩ := hrow B e.symm
  rw [show X.heap[B]? = _ from hs] at ho; cases ho; cases hc

set_option maxRecDepth 100000 in
set_option maxHeartbeats 4000000 in
/-- slices.AppendSeq onto nil: a slice of the call's own that holds what came. -/
theorem appendSeqS (F : Fence) (n : Nat) (hA : F.fn 136) (hro : F.round = none) (hn : 3 ≤ n) (gf : Nat) (hgf : F.fn gf) (eg : ∀ args w, (callFunc gf args).run Try.prog w = .ok (.enter gf args) w) (lb : Array Value) (zs : List (Int × Int)) (hlen : zs.length ≤ maxLen) (hbytes : zs.length * 16 ≤ 140737488355328) (w : World)
    (hseq : ∀ W, Below w.heap.size w W → SeqStopsK F (n - 1) Try.prog gf lb encS (Below w.heap.size) (fun ys => ys = zs) (fun pre => pre <+: zs) zs.length W) :
    CallsIn F n Try.prog 136 #[.slice none 0 0, .func (.func gf) #[] lb] w fun e W' => ∃ v, e = .returned v ∧ W'.ownsRow w.heap.size 35 2 v zs.length (cellsS zs) ∧ (v = .slice none 0 0 ↔ zs = []) ∧ Below w.heap.size w W' := by
  have h1 : 1 ≤ n := by omega
  obtain ⟨i0, hi, hz0, hz1, hz2⟩ := info_parts infoSpan
  refine callsIn_of_wp_marks Try.func136 rfl hA ?_ hro
  simp only [Try.ntmps136, List.size_toArray, List.length_cons, List.length_nil, Nat.reduceAdd, Nat.reduceSub, Array.replicate_succ, Array.replicate_zero, List.push_toArray, List.append_toArray, List.nil_append, List.cons_append]
  have HS := Lib.hid hseq; clear hseq
  gi_wp2
  have bO := Boxed.new w 43 (.slice none 0 0)
  have hB0 : Below w.heap.size w (w.alloc (.cells #[.slice none 0 0] 43)) := (Below.refl _ w).alloc (Nat.le_refl _) _
  refine wpIn_rangeFunc_ownH hro h1 (gf := gf) (lb := lb) rfl hgf eg
    (HS.out _ hB0) belowK_t (belowK_b (by simp)) (Below.refl _ _) (fun _ => rfl)
    (fun pre W => (∃ v, Boxed W w.heap.size 43 v ∧ W.ownsRow w.heap.size 35 2 v pre.length (cellsS pre) ∧ (v = .slice none 0 0 ↔ pre = [])) ∧ Below w.heap.size w W)
    (fun _ _ _ => False)
    (OwnFrom.and (Own.from (holdsRow_own w.heap.size w.heap.size 43 35 2 (fun pre => pre.length) (fun pre => cellsS pre) (fun pre v => v = .slice none 0 0 ↔ pre = [])) _) (ownFrom_below (Nat.le_refl _) (by simp)))
    (fun _ _ _ _ _ hs _ _ => hs)
    ⟨⟨_, bO, World.ownsRow_nil _ _ _ _, by simp⟩, hB0⟩
    (fun x a' W => ∃ Bx, w.heap.size < Bx ∧ Blk W Bx 35 #[.int .i64 x.1, .int .i64 x.2] ∧ a' = { tmps := #[.slice none 0 0, .func (.func gf) #[] lb, .pointer (some ⟨w.heap.size, 0, none⟩), undef, .slice none 0 0, .pointer (some ⟨Bx, 0, none⟩), .func (.func gf) #[] lb, .agg #[.int .i64 x.1, .int .i64 x.2], undef, undef, undef, undef, undef], defers := [] })
    (fun x a' _ X Y row hs hg hr => by obtain ⟨Bx, h1, h2, h3⟩ := hs; exact ⟨Bx, h1, blk_own Bx 35 (fun (_ : Unit) => #[Value.int .i64 x.1, .int .i64 x.2]) () X Y row h2 hg (fun r e => (hr r e).2), h3⟩)
    ?assign ?body ?done ?stop
  case assign =>
    rintro l pre x W K ⟨⟨v, hv, hrow, hnil⟩, hB⟩ hK
    unfold encS
    gi_wp2
    exact hK _ _ ((KeepsOthers.alloc _ _).from _) ((Below.refl _ W).alloc hB.size _) ⟨⟨v, hv.alloc _, hrow.alloc _, hnil⟩, hB.alloc hB.size _⟩ ⟨W.heap.size, hv.lt, Blk.new _ _ _, rfl⟩
  case body =>
    rintro l pre x a' W hl ⟨r, hr⟩ ⟨⟨v, hv, hrow, hnil⟩, hB⟩ ⟨Bx, hBx, bX, rfl⟩ hlt
    have hc := hv.cell
    have hf := hv.frozen
    obtain ⟨cX, fX, lX, eX, kX⟩ := Blk.facts bX
    have hzW := hB.size
    gi_wp2_with (gi_at_builtin; refine wpListIn_append_own _ rfl _ _ 43 rfl w.heap.size 35 i0 (.agg #[.int .i64 0, .int .i64 0]) 2 16 Try.underlying43 hi hz0 hz1 hz2 rfl (by decide) _ _ _ rfl (hrow.alloc _) ⟨W.heap.size, 0, none⟩ 1 1 [.int .i64 x.1, .int .i64 x.2] rfl rfl (World.news_of_block (cs := #[.int .i64 x.1, .int .i64 x.2]) (heap_alloc_new W _)) (by simp [Value.oneCell']) (by omega) (by omega) (by simp; omega) ?_; intro v' w1 hown' hgrow _; obtain ⟨g', cap', rfl⟩ := ownsRow_succ hown'; obtain ⟨hv1, hv2, hr2, hk2, hb2⟩ := hv.appended (by decide) hrow hB.size (Nat.le_refl _) hown' hgrow; have hc1 := hv1.cell; have hf1 := hv1.frozen)
    exact ⟨hk2.from _, hb2, ⟨_, hv2, by rw [cellsS_snoc]; simpa using hr2, by simp⟩, hB.trans hb2⟩
  case done =>
    rintro D ys W hD rfl ⟨⟨v, hv, hrow, hnil⟩, hB⟩ hK
    have hc := hv.cell
    gi_wp2
    refine ⟨by simp, .inl ⟨_, _, rfl, run_takeDeferred hK, ?_⟩⟩
    exact ⟨_, results_tmp rfl _ _ _, v, rfl, ownsRow_putObj hrow _ hK rfl, hnil, hB.trans (belowK_b (w := w) (Nat.le_refl _) W D _ _ (by simp at hD; omega) hK rfl rfl)⟩
  case stop =>
    rintro D c pre W _ _ h _
    exact h.elim
end Go.Proofs.Ytlfkkfdolnkjfaa
