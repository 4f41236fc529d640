/- The tape, known whole. -/
import Derived.Test.YtlfkkfdolnkjfaaKitG
import Derived.Test.YtlfkkfdolnkjfaaMade37
import Derived.Test.YtlfkkfdolnkjfaaTapeB
namespace Go.Proofs.Ytlfkkfdolnkjfaa
open Go.RowKit
set_option linter.unusedSimpArgs false
set_option linter.unusedVariables false

def TapeZ (w : World) (b : Nat) (zs : List Int) (k : Nat) : Prop := (∀ z ∈ zs, IntIn z) ∧ ∃ (g off cap : Nat) (A : Option Addr), w.cell? ⟨b, 0, none⟩ = some (.slice A zs.length cap) ∧ w.cell? ⟨b, 1, none⟩ = some (.int .i64 (min k zs.length : Nat)) ∧ w.frozen? ⟨b, 1, none⟩ = false ∧
  zs.length ≤ 9223372036854775807 ∧ (k < zs.length → A = some ⟨g, off, none⟩ ∧ g < b ∧ ∀ j, j < zs.length → w.cell? ⟨g, off + j, none⟩ = some (.int .i64 (zs.getD j 0)))
theorem TapeZ.at_ {w : World} {b k : Nat} {zs : List Int} (h : TapeZ w b zs k) : TapeAt w b := by
  obtain ⟨hz, g, off, cap, A, h0, h1, hf, hl, hs⟩ := h
  refine ⟨g, off, zs.length, cap, min k zs.length, A, zs, h0, h1, hf, Nat.min_le_right _ _, hl, fun hlt => ?_⟩
  obtain ⟨e, hg, hc⟩ := hs (by omega)
  exact ⟨e, hg, fun j hj => ⟨hc j hj, hz _ (by rw [List.getD_eq_getElem?_getD, List.getElem?_eq_getElem hj]; exact List.getElem_mem _)⟩⟩
theorem TapeZ.lt {w : World} {b k : Nat} {zs : List Int} (h : TapeZ w b zs k) : b < w.heap.size := h.at_.lt
theorem TapeZ.kept {w w' : World} {b k : Nat} {zs : List Int} (h : TapeZ w b zs k) (hb : ∀ q, q ≤ b → w'.heap[q]? = w.heap[q]?) : TapeZ w' b zs k := by
  obtain ⟨hz, g, off, cap, A, h0, h1, hf, hl, hs⟩ := h
  refine ⟨hz, g, off, cap, A, (World.cell?_of_block (hb b (Nat.le_refl _))).trans h0, (World.cell?_of_block (hb b (Nat.le_refl _))).trans h1, (World.frozen?_of_block (a := ⟨b, 1, none⟩) (hb b (Nat.le_refl _))).trans hf, hl, fun hlt => ?_⟩
  obtain ⟨e, hg, hc⟩ := hs hlt
  exact ⟨e, hg, fun j hj => (World.cell?_of_block (hb g (by omega))).trans (hc j hj)⟩
theorem TapeZ.below {w w' : World} {b k : Nat} {zs : List Int} (h : TapeZ w b zs k) (hb : Below w.heap.size w w') : TapeZ w' b zs k := h.kept fun q hq => hb.block q (Nat.lt_of_le_of_lt hq h.lt)
theorem TapeZ.set {w : World} {b k : Nat} {zs : List Int} (h : TapeZ w b zs k) {a : Addr} (ha : b < a.block) (v : Value) : TapeZ (w.setCell a v) b zs k := h.kept fun q hq => Below.heap_setCell w a v q (by omega)
theorem TapeZ.alloc {w : World} {b k : Nat} {zs : List Int} (h : TapeZ w b zs k) (o : Obj) : TapeZ (w.alloc o) b zs k := h.below ((Below.refl _ _).alloc (Nat.le_refl _) _)
theorem TapeZ.drew {w : World} {b k : Nat} {zs : List Int} (h : TapeZ w b zs k) : TapeZ w.drew b zs k := h.below (Below.refl _ _).drew
theorem zget_in {zs : List Int} (h : ∀ z ∈ zs, IntIn z) (k : Nat) : IntIn (zs.getD k 0) := by
  by_cases hk : k < zs.length
  · exact h _ (by rw [List.getD_eq_getElem?_getD, List.getElem?_eq_getElem hk]; exact List.getElem_mem _)
  · rw [List.getD_eq_getElem?_getD, List.getElem?_eq_none (by omega)]; unfold IntIn; simp
set_option maxHeartbeats 1000000 in
theorem next_z (b k : Nat) (zs : List Int) (w : World) (h : TapeZ w b zs k) : Calls Try.prog 73 #[.pointer (some ⟨b, 0, none⟩)] w fun e w' => e = .returned (.int .i64 (zs.getD k 0)) ∧ TapeZ w' b zs (k + 1) ∧ w.grownBy w' (some b) := by
  obtain ⟨hz, g, off, cap, A, h0, h1, hf, hl, hs⟩ := id h
  have hbs := World.block_lt_of_cell? w _ h0
  have H := Lib.hid h; clear h
  by_cases hlt : k < zs.length
  · obtain ⟨rfl, hg, hs'⟩ := hs hlt
    have c := hs' k hlt
    have HS := Lib.hid hs'
    clear hs' hs
    rw [show min k zs.length = k by omega] at h1
    have HZ := Lib.hid hz; clear hz
    have hk1 : min (k + 1) zs.length = k + 1 := by omega
    have HK1 := Lib.hid hk1; clear hk1
    obtain ⟨v, hv⟩ : ∃ v, zs.getD k 0 = v := ⟨_, rfl⟩
    rw [hv] at c
    rw [hv]
    have HV := Lib.hid hv; clear hv
    go_enter Try.func73, Try.ntmps73
    go_wp2_with fail
    go_quiet (fail)
    go_wp2_with fail
    go_quiet (fail)
    go_wp2
    go_ret
    refine ⟨rfl, ⟨HZ.out, g, off, cap, _, by simp [go_sem, h0], by rw [HK1.out]; simp [go_sem, h1], by simp [go_sem, hf], hl, fun _ => ⟨rfl, hg, fun j hj => ?_⟩⟩, grown_put w _ _ ⟨b, 1, none⟩ _⟩
    have c := HS.out j hj
    have hg' : g ≠ b := by omega
    simp [go_sem, c, hg']
  · have hz0 : zs.getD k 0 = 0 := by rw [List.getD_eq_getElem?_getD, List.getElem?_eq_none (by omega)]; rfl
    rw [hz0]
    rw [show min k zs.length = zs.length by omega] at h1
    have hk1 : min (k + 1) zs.length = zs.length := by omega
    have HK1 := Lib.hid hk1; have HZ := Lib.hid hz; clear hk1 hz0 hz hs
    go_enter Try.func73, Try.ntmps73
    go_wp2_with fail
    go_quiet (fail)
    go_wp2
    go_ret
    exact ⟨rfl, ⟨HZ.out, g, off, cap, A, h0, by rw [HK1.out]; exact h1, hf, hl, fun h => absurd h (by omega)⟩, grown_drewN _ _ _⟩
theorem int_z (b k : Nat) (zs : List Int) (n : Int) (w : World) (h : TapeZ w b zs k) (hn : 1 ≤ n) (hn2 : n ≤ 9223372036854775807) : Calls Try.prog 28 #[.pointer (some ⟨b, 0, none⟩), .int .i64 n] w fun e w' => e = .returned (.int .i64 (zs.getD k 0 % n)) ∧ TapeZ w' b zs (k + 1) ∧ w.grownBy w' (some b) := by
  have H := Lib.hid h; clear h
  go_enter Try.func28, Try.ntmps28
  go_wp2_with fail
  refine (next_z b k zs _ H.out).mono ?_
  rintro e w1 ⟨rfl, ht, hg⟩
  have HT := Lib.hid ht; clear ht
  obtain ⟨v, hv⟩ : ∃ v, zs.getD k 0 = v := ⟨_, rfl⟩
  rw [hv]
  have HV := Lib.hid hv; clear hv
  go_wp2_with fail
  refine (within_any v n _ hn hn2).mono ?_
  rintro e w2 ⟨rfl, rfl⟩
  go_wp2
  go_ret
  exact ⟨by rw [HV.out]; rfl, HT.out, hg⟩
def zR (zs : List Int) (k : Nat) (lo hi : Int) : Int := lo + zs.getD k 0 % (hi - lo + 1)
theorem range_z (b k : Nat) (zs : List Int) (lo hi : Int) (w : World) (h : TapeZ w b zs k) (h1 : lo ≤ hi) (h2 : -1000000000 ≤ lo) (h3 : hi ≤ 1000000000) : Calls Try.prog 57 #[.pointer (some ⟨b, 0, none⟩), .int .i64 lo, .int .i64 hi] w fun e w' => e = .returned (.int .i64 (zR zs k lo hi)) ∧ TapeZ w' b zs (k + 1) ∧ w.grownBy w' (some b) := by
  have H := Lib.hid h; clear h
  have m1 := Int.emod_nonneg (zs.getD k 0) (b := hi - lo + 1) (by omega)
  have m2 := Int.emod_lt_of_pos (zs.getD k 0) (b := hi - lo + 1) (by omega)
  obtain ⟨r, hr⟩ : ∃ r, zs.getD k 0 % (hi - lo + 1) = r := ⟨_, rfl⟩
  have hz : zR zs k lo hi = lo + r := by unfold zR; rw [hr]
  rw [hr] at m1 m2
  have HR := Lib.hid hr; have HZ := Lib.hid hz; clear hr hz
  go_enter Try.func57, Try.ntmps57
  go_wp2_with fail
  refine (int_z b k zs _ _ H.out (by omega) (by omega)).mono ?_
  rintro e w1 ⟨rfl, ht, hg⟩
  rw [HR.out]
  have HT := Lib.hid ht; clear ht
  have wl : IntKind.i64.wrap (lo + r) = lo + r := IntWalk.i64_in _ (by omega)
  go_wp2
  go_ret
  exact ⟨by rw [HZ.out]; rfl, HT.out, hg⟩
def zLo (zs : List Int) (k : Nat) (n : Int) : Int := zR zs k (-n) n
def zHi (zs : List Int) (k : Nat) (n : Int) : Int := zLo zs k n + zs.getD (k + 1) 0 % (n + 1)
theorem zR_in (zs : List Int) (k : Nat) {lo hi : Int} (h : lo ≤ hi) : lo ≤ zR zs k lo hi ∧ zR zs k lo hi ≤ hi := by
  have m1 := Int.emod_nonneg (zs.getD k 0) (b := hi - lo + 1) (by omega)
  have m2 := Int.emod_lt_of_pos (zs.getD k 0) (b := hi - lo + 1) (by omega)
  unfold zR; omega
set_option maxHeartbeats 1000000 in
theorem tspan_z (b k : Nat) (zs : List Int) (n : Int) (w : World) (h : TapeZ w b zs k) (hn : 0 ≤ n) (hn2 : n ≤ 1000000) : Calls Try.prog 43 #[.pointer (some ⟨b, 0, none⟩), .int .i64 n] w fun e w' => e = .returned (.agg #[.int .i64 (zLo zs k n), .int .i64 (zHi zs k n)]) ∧ TapeZ w' b zs (k + 2) ∧ w.grownBy w' (some b) := by
  have H := Lib.hid h; clear h
  have hlt := H.out.lt
  have hlo := zR_in zs k (show -n ≤ n by omega)
  have m1 := Int.emod_nonneg (zs.getD (k + 1) 0) (b := n + 1) (by omega)
  have m2 := Int.emod_lt_of_pos (zs.getD (k + 1) 0) (b := n + 1) (by omega)
  obtain ⟨lo, hl⟩ : ∃ lo, zR zs k (-n) n = lo := ⟨_, rfl⟩
  obtain ⟨d, hd⟩ : ∃ d, zs.getD (k + 1) 0 % (n + 1) = d := ⟨_, rfl⟩
  rw [hl] at hlo
  rw [hd] at m1 m2
  have hLo : zLo zs k n = lo := hl
  have hHi : zHi zs k n = lo + d := by unfold zHi; rw [hLo, hd]
  rw [hLo, hHi]
  have HL := Lib.hid hl; have HD := Lib.hid hd; clear hl hd hLo hHi
  obtain ⟨hlo0, hlo1⟩ := hlo
  have wn : IntKind.i64.wrap (n + 1) = n + 1 := IntWalk.i64_in _ (by omega)
  have wm : IntKind.i64.wrap (-n) = -n := IntWalk.i64_in _ (by omega)
  have wd : IntKind.i64.wrap (lo + d) = lo + d := IntWalk.i64_in _ (by omega)
  go_enter Try.func43, Try.ntmps43
  go_wp2_with fail
  refine (range_z b k zs _ _ _ (H.out.below (by (repeat' (first | (with_reducible exact Below.refl _ _) | (with_reducible refine Below.alloc ?_ ?_ _))) <;> (first | omega | (simp <;> omega)))) (by omega) (by omega) (by omega)).mono ?_
  rintro e w1 ⟨rfl, ht, hg⟩
  rw [HL.out]
  have c0 : w1.cell? ⟨w.heap.size, 0, none⟩ = some (.int .i64 0) := cell_grown hg (by simp; omega) (by simp [go_sem])
  have c1 : w1.cell? ⟨w.heap.size, 1, none⟩ = some (.int .i64 0) := cell_grown hg (by simp; omega) (by simp [go_sem])
  have f0 : w1.frozen? ⟨w.heap.size, 0, none⟩ = false := (World.frozen?_of_block (hg.block w.heap.size (by simp) (by simp; omega))).trans (by simp [go_sem])
  have f1 : w1.frozen? ⟨w.heap.size, 1, none⟩ = false := (World.frozen?_of_block (hg.block w.heap.size (by simp) (by simp; omega))).trans (by simp [go_sem])
  have hz1 := hg.size
  simp at hz1
  have HT := Lib.hid ht; clear ht
  have HG := Lib.hid hg; clear hg
  go_wp2_with fail
  refine (int_z b (k + 1) zs _ _ HT.out (by omega) (by omega)).mono ?_
  rintro e w2 ⟨rfl, ht2, hg2⟩
  rw [HD.out]
  replace c0 := cell_grown hg2 (by simp; omega) c0
  replace c1 := cell_grown hg2 (by simp; omega) c1
  replace f0 := (World.frozen?_of_block (a := ⟨w.heap.size, 0, none⟩) (hg2.block w.heap.size (by omega) (by simp; omega))).trans f0
  replace f1 := (World.frozen?_of_block (a := ⟨w.heap.size, 1, none⟩) (hg2.block w.heap.size (by omega) (by simp; omega))).trans f1
  have hG := grown_trans HG.out hg2
  have hz2 := hg2.size
  have HT := Lib.hid ht2; clear ht2
  have HG := Lib.hid hG; clear hG hg2
  go_wp2_with fail
  refine bodyPost_ret (v := .agg #[.int .i64 lo, .int .i64 (lo + d)]) (by simp [results, Try.results43, go_sem, c0, c1, wd]) rfl ⟨rfl, ?_, grown_own HG.out _ _ 0 1⟩
  exact (HT.out.set (by simpa using hlt) _).set (by simpa using hlt) _
theorem new_z (A : Option Addr) (len cap : Nat) (zs : List Int) (w : World) (h : IntsAt w A len zs) : Calls Try.prog 14 #[.slice A len cap] w fun e w' => e = .returned (.pointer (some ⟨w.heap.size, 0, none⟩)) ∧ TapeZ w' w.heap.size zs 0 ∧ Below w.heap.size w w' := by
  have H := Lib.hid h; clear h
  go_enter Try.func14, Try.ntmps14
  go_wp2
  go_ret
  refine ⟨rfl, ?_, (Below.refl _ _).alloc (Nat.le_refl _) _⟩
  obtain ⟨hl, hl2, hz, hA⟩ := H.out
  subst hl
  by_cases hn : 0 < zs.length
  · obtain ⟨g, off, rfl, hg, hc⟩ := hA hn
    exact ⟨hz, g, off, cap, _, by simp [go_sem], by simp [go_sem], by simp [go_sem], hl2, fun _ => ⟨rfl, by omega, fun j hj => cell_below ((Below.refl _ _).alloc (Nat.le_refl _) _) (hc j hj)⟩⟩
  · exact ⟨hz, 0, 0, cap, A, by simp [go_sem], by simp [go_sem], by simp [go_sem], hl2, by omega⟩
theorem setAll_in {X : List Nat} {g : Nat} (hg : g ∈ X) : ∀ (l : List Value) (i : Nat) (w : World), Past X w (setAll w g i l)
  | [], _, _ => Past.refl _ _
  | v :: l, i, w => (Past.set (a := ⟨g, i, none⟩) hg v).trans (setAll_in hg l (i + 1) _)
def mzPos : Nat → Nat
  | 0 => 0
  | 1 => 1
  | 2 => 3
  | 3 => 4
  | 4 => 5
  | _ => 6
def mzP (v : Int) : Int := if v = 0 then 0 else if v = 1 then 200 else if v = 2 then 50000 else 1000000
structure MZ where
  (at_ lo hi p l r : Int)
def mz (zs : List Int) (k : Nat) : MZ := ⟨zs.getD k 0 % 50, zLo zs (k + 1) 100, zHi zs (k + 1) 100, mzP (zs.getD (k + 3) 0 % 4), zs.getD (k + 4) 0 % 9, zs.getD (k + 5) 0 % 3⟩
def MZ.cs (x : MZ) : Array Value := #[.int .i64 x.at_, .int .i64 x.lo, .int .i64 x.hi, .int .i64 x.p, .int .i64 x.l, .int .i64 x.r]
def MzC (w : World) (b g0 : Nat) (zs : List Int) (k : Nat) (cs : Array Value) (n : Nat) (_ : List Value) (w' : World) : Prop := TapeZ w' b zs (k + mzPos n) ∧ Past [b, g0] w w' ∧ g0 < w'.heap.size ∧ w.heap.size ≤ g0 ∧ b < g0 ∧ (n ≤ 5 → Blk w' g0 72 #[.int .i64 0, .int .i64 0, .int .i64 0, .int .i64 0, .int .i64 0, .int .i64 0]) ∧ (n = 6 → Blk w' g0 72 cs)
set_option maxRecDepth 100000 in
set_option maxHeartbeats 4000000 in
theorem made_z (b k : Nat) (zs : List Int) (w : World) (h : TapeZ w b zs k) : Calls Try.prog 41 #[.pointer (some ⟨b, 0, none⟩)] w fun e w' => e = .returned (.agg (mz zs k).cs) ∧ TapeZ w' b zs (k + 6) ∧ w.grownBy w' (some b) := by
  have hb := h.lt
  have H := Lib.hid h; clear h
  have m0 := Int.emod_nonneg (zs.getD (k + 3) 0) (b := 4) (by decide)
  have m1 := Int.emod_lt_of_pos (zs.getD (k + 3) 0) (b := 4) (by decide)
  obtain ⟨v0, hv0⟩ : ∃ v, zs.getD k 0 % 50 = v := ⟨_, rfl⟩
  obtain ⟨v1, hv1⟩ : ∃ v, zLo zs (k + 1) 100 = v := ⟨_, rfl⟩
  obtain ⟨v2, hv2⟩ : ∃ v, zHi zs (k + 1) 100 = v := ⟨_, rfl⟩
  obtain ⟨vq, hvq⟩ : ∃ v, zs.getD (k + 3) 0 % 4 = v := ⟨_, rfl⟩
  obtain ⟨v3, hv3⟩ : ∃ v, mzP vq = v := ⟨_, rfl⟩
  obtain ⟨v4, hv4⟩ : ∃ v, zs.getD (k + 4) 0 % 9 = v := ⟨_, rfl⟩
  obtain ⟨v5, hv5⟩ : ∃ v, zs.getD (k + 5) 0 % 3 = v := ⟨_, rfl⟩
  have hmz : (mz zs k).cs = #[.int .i64 v0, .int .i64 v1, .int .i64 v2, .int .i64 v3, .int .i64 v4, .int .i64 v5] := by rw [← hv0, ← hv1, ← hv2, ← hv3, ← hvq, ← hv4, ← hv5]; rfl
  rw [hvq] at m0 m1
  rw [hmz]
  have R0 := Lib.hid (fun W h => hv0 ▸ int_z b k zs 50 W h (by omega) (by omega))
  have R1 := Lib.hid (fun W h => hv2 ▸ hv1 ▸ tspan_z b (k + 1) zs 100 W h (by omega) (by omega))
  have R3 := Lib.hid (fun W h => hvq ▸ int_z b (k + 3) zs 4 W h (by omega) (by omega))
  have R4 := Lib.hid (fun W h => hv4 ▸ int_z b (k + 4) zs 9 W h (by omega) (by omega))
  have R5 := Lib.hid (fun W h => hv5 ▸ int_z b (k + 5) zs 3 W h (by omega) (by omega))
  have HV3 := Lib.hid hv3
  clear hv0 hv1 hv2 hvq hv3 hv4 hv5 hmz
  go_enter Try.func41, Try.ntmps41
  go_wp2
  refine wp_region_calm (by kernel_rfl) (MzC w b w.heap.size zs k #[.int .i64 v0, .int .i64 v1, .int .i64 v2, .int .i64 v3, .int .i64 v4, .int .i64 v5]) (Past [b, w.heap.size]) [(Is (.pointer (some ⟨b, 0, none⟩))), (Is (.int .i64 v0)), (Is (.pointer (some ⟨b, 0, none⟩))), (Is (.agg #[.int .i64 v1, .int .i64 v2])), (SliceN [b, w.heap.size] 3 4 #[.int .i64 0, .int .i64 200, .int .i64 50000, .int .i64 1000000]), (Is (.pointer (some ⟨b, 0, none⟩))), (Is (.int .i64 vq)), (fun _ v wx => ∃ g q, v = .pointer (some ⟨g, q, none⟩) ∧ (vq = ((q : Nat) : Int)) ∧ q < 4 ∧ g ∉ [b, w.heap.size] ∧ Blk wx g 3 #[.int .i64 0, .int .i64 200, .int .i64 50000, .int .i64 1000000]), (Is (.int .i64 v3)), (Is (.pointer (some ⟨b, 0, none⟩))), (Is (.int .i64 v4)), (Is (.pointer (some ⟨b, 0, none⟩))), (Is (.int .i64 v5)), (Is (.agg #[.int .i64 v0, .int .i64 v1, .int .i64 v2, .int .i64 v3, .int .i64 v4, .int .i64 v5])), (fun _ _ _ => True)] [[], [0], [], [2], [], [], [5], [4, 6], [7], [], [9], [], [11], [1, 3, 8, 10, 12], [13]] [1, 3, 6, 10, 12, 14] [] rfl (by kernel_rfl) (fun u => by (simp only [calmPut, Act.put, List.setIfInBounds_toArray, List.set_cons_zero, List.set_cons_succ, Nat.zero_add, Nat.reduceAdd]; rfl)) ?_ (calmKeep_cons keep_is' (calmKeep_cons keep_is' (calmKeep_cons keep_is' (calmKeep_cons keep_is' (calmKeep_cons keep_sliceN (calmKeep_cons keep_is' (calmKeep_cons keep_is' (calmKeep_cons (fun _ _ _ _ h ⟨g, q, e, e2, e3, hn, hb⟩ => ⟨g, q, e, e2, e3, hn, h.blk hb hn⟩) (calmKeep_cons keep_is' (calmKeep_cons keep_is' (calmKeep_cons keep_is' (calmKeep_cons keep_is' (calmKeep_cons keep_is' (calmKeep_cons keep_is' (calmKeep_cons keep_triv (calmKeep_nil)))))))))))))))) ?_ ?_
  · exact fun _ => ⟨(H.out.alloc _).drew, (Past.alloc _ _ _).drew, by simp, Nat.le_refl _, hb, fun _ => (Blk.new _ _ _).drew, fun h => by cases h⟩
  · skip
    refine calmSteps_cons (fun u wq n hn hn2 hC hk K hK => ?_) ?_
    · obtain ⟨hT, hP, hg, hg1, hbg, hB0, hB6⟩ := hC
      have HT := Lib.hid hT; have HP := Lib.hid hP; clear hT hP
      clear hk
      go_simp
      exact hK _ _ _ rfl ⟨HT.out, HP.out, hg, hg1, hbg, hB0, hB6⟩ (Past.refl _ _) rfl
    refine calmSteps_cons (fun u wq n hn hn2 hC hk K hK => ?_) ?_
    · obtain ⟨hT, hP, hg, hg1, hbg, hB0, hB6⟩ := hC
      have HT := Lib.hid hT; have HP := Lib.hid hP; clear hT hP
      simp only [calmKnown, List.getElem?_cons_zero, List.getElem?_cons_succ, and_true, Is] at hk
      have h0 := hk; clear hk
      simp only [h0] at hK ⊢
      clear h0
      obtain rfl := hn 0 rfl
      have hB := hB0 (by decide)
      clear hB0 hB6
      go_wp2_with fail
      refine (R0.out _ HT.out).mono ?_
      rintro e w2 ⟨rfl, ht, hgr⟩
      have hq := Past.grown (X := [b, w.heap.size]) hgr (by simp)
      exact hK _ _ _ rfl ⟨ht, HP.out.trans hq, Nat.lt_of_lt_of_le hg hq.1, hg1, hbg, fun _ => Blk.keepG hgr hB (by omega), fun h => absurd h (by decide)⟩ hq rfl
    refine calmSteps_cons (fun u wq n hn hn2 hC hk K hK => ?_) ?_
    · obtain ⟨hT, hP, hg, hg1, hbg, hB0, hB6⟩ := hC
      have HT := Lib.hid hT; have HP := Lib.hid hP; clear hT hP
      clear hk
      go_simp
      exact hK _ _ _ rfl ⟨HT.out, HP.out, hg, hg1, hbg, hB0, hB6⟩ (Past.refl _ _) rfl
    refine calmSteps_cons (fun u wq n hn hn2 hC hk K hK => ?_) ?_
    · obtain ⟨hT, hP, hg, hg1, hbg, hB0, hB6⟩ := hC
      have HT := Lib.hid hT; have HP := Lib.hid hP; clear hT hP
      simp only [calmKnown, List.getElem?_cons_zero, List.getElem?_cons_succ, and_true, Is] at hk
      have h2 := hk; clear hk
      simp only [h2] at hK ⊢
      clear h2
      obtain rfl := hn 1 rfl
      have hB := hB0 (by decide)
      clear hB0 hB6
      go_wp2_with fail
      refine (R1.out _ HT.out).mono ?_
      rintro e w2 ⟨rfl, ht, hgr⟩
      have hq := Past.grown (X := [b, w.heap.size]) hgr (by simp)
      exact hK _ _ _ rfl ⟨ht, HP.out.trans hq, Nat.lt_of_lt_of_le hg hq.1, hg1, hbg, fun _ => Blk.keepG hgr hB (by omega), fun h => absurd h (by decide)⟩ hq rfl
    refine calmSteps_cons (fun u wq n hn hn2 hC hk K hK => ?_) ?_
    · obtain ⟨hT, hP, hg, hg1, hbg, hB0, hB6⟩ := hC
      have HT := Lib.hid hT; have HP := Lib.hid hP; clear hT hP
      clear hk
      go_simp
      exact hK _ _ _ rfl ⟨HT.out.alloc _, HP.out.trans (Past.alloc _ _ _), by simp; omega, hg1, hbg, fun h => (hB0 h).alloc _, fun h => (hB6 h).alloc _⟩ (Past.alloc _ _ _) ⟨wq.heap.size, rfl, by simp; omega, Blk.new _ _ _⟩
    refine calmSteps_cons (fun u wq n hn hn2 hC hk K hK => ?_) ?_
    · obtain ⟨hT, hP, hg, hg1, hbg, hB0, hB6⟩ := hC
      have HT := Lib.hid hT; have HP := Lib.hid hP; clear hT hP
      clear hk
      go_simp
      exact hK _ _ _ rfl ⟨HT.out, HP.out, hg, hg1, hbg, hB0, hB6⟩ (Past.refl _ _) rfl
    refine calmSteps_cons (fun u wq n hn hn2 hC hk K hK => ?_) ?_
    · obtain ⟨hT, hP, hg, hg1, hbg, hB0, hB6⟩ := hC
      have HT := Lib.hid hT; have HP := Lib.hid hP; clear hT hP
      simp only [calmKnown, List.getElem?_cons_zero, List.getElem?_cons_succ, and_true, Is] at hk
      have h5 := hk; clear hk
      simp only [h5] at hK ⊢
      clear h5
      obtain rfl := hn 2 rfl
      have hB := hB0 (by decide)
      clear hB0 hB6
      go_wp2_with fail
      refine (R3.out _ HT.out).mono ?_
      rintro e w2 ⟨rfl, ht, hgr⟩
      have hq := Past.grown (X := [b, w.heap.size]) hgr (by simp)
      exact hK _ _ _ rfl ⟨ht, HP.out.trans hq, Nat.lt_of_lt_of_le hg hq.1, hg1, hbg, fun _ => Blk.keepG hgr hB (by omega), fun h => absurd h (by decide)⟩ hq rfl
    refine calmSteps_cons (fun u wq n hn hn2 hC hk K hK => ?_) ?_
    · obtain ⟨hT, hP, hg, hg1, hbg, hB0, hB6⟩ := hC
      have HT := Lib.hid hT; have HP := Lib.hid hP; clear hT hP
      simp only [calmKnown, List.getElem?_cons_zero, List.getElem?_cons_succ, and_true, Is] at hk
      obtain ⟨⟨g, h4, gn, gb⟩, h6⟩ := hk
      simp only [h4, h6] at hK ⊢
      clear h4 h6
      obtain ⟨q, hq⟩ : ∃ q : Nat, vq = (q : Int) := ⟨vq.toNat, by omega⟩
      have hq4 : q < 4 := by omega
      subst hq
      obtain rfl | rfl | rfl | rfl : q = 0 ∨ q = 1 ∨ q = 2 ∨ q = 3 := by omega
      all_goals
        go_simp
        exact hK _ _ _ rfl ⟨HT.out, HP.out, hg, hg1, hbg, hB0, hB6⟩ (Past.refl _ _) ⟨g, _, rfl, rfl, hq4, gn, gb⟩
    refine calmSteps_cons (fun u wq n hn hn2 hC hk K hK => ?_) ?_
    · obtain ⟨hT, hP, hg, hg1, hbg, hB0, hB6⟩ := hC
      have HT := Lib.hid hT; have HP := Lib.hid hP; clear hT hP
      simp only [calmKnown, List.getElem?_cons_zero, List.getElem?_cons_succ, and_true, Is] at hk
      obtain ⟨g, q, h7, hq, hq4, gn, gb⟩ := hk
      simp only [h7] at hK ⊢
      clear h7
      have hc := gb.cell
      subst hq
      obtain rfl | rfl | rfl | rfl : q = 0 ∨ q = 1 ∨ q = 2 ∨ q = 3 := by omega
      all_goals
        go_simp
        exact hK _ _ _ rfl ⟨HT.out, HP.out, hg, hg1, hbg, hB0, hB6⟩ (Past.refl _ _) (by rw [← HV3.out]; rfl)
    refine calmSteps_cons (fun u wq n hn hn2 hC hk K hK => ?_) ?_
    · obtain ⟨hT, hP, hg, hg1, hbg, hB0, hB6⟩ := hC
      have HT := Lib.hid hT; have HP := Lib.hid hP; clear hT hP
      clear hk
      go_simp
      exact hK _ _ _ rfl ⟨HT.out, HP.out, hg, hg1, hbg, hB0, hB6⟩ (Past.refl _ _) rfl
    refine calmSteps_cons (fun u wq n hn hn2 hC hk K hK => ?_) ?_
    · obtain ⟨hT, hP, hg, hg1, hbg, hB0, hB6⟩ := hC
      have HT := Lib.hid hT; have HP := Lib.hid hP; clear hT hP
      simp only [calmKnown, List.getElem?_cons_zero, List.getElem?_cons_succ, and_true, Is] at hk
      have h9 := hk; clear hk
      simp only [h9] at hK ⊢
      clear h9
      obtain rfl := hn 3 rfl
      have hB := hB0 (by decide)
      clear hB0 hB6
      go_wp2_with fail
      refine (R4.out _ HT.out).mono ?_
      rintro e w2 ⟨rfl, ht, hgr⟩
      have hq := Past.grown (X := [b, w.heap.size]) hgr (by simp)
      exact hK _ _ _ rfl ⟨ht, HP.out.trans hq, Nat.lt_of_lt_of_le hg hq.1, hg1, hbg, fun _ => Blk.keepG hgr hB (by omega), fun h => absurd h (by decide)⟩ hq rfl
    refine calmSteps_cons (fun u wq n hn hn2 hC hk K hK => ?_) ?_
    · obtain ⟨hT, hP, hg, hg1, hbg, hB0, hB6⟩ := hC
      have HT := Lib.hid hT; have HP := Lib.hid hP; clear hT hP
      clear hk
      go_simp
      exact hK _ _ _ rfl ⟨HT.out, HP.out, hg, hg1, hbg, hB0, hB6⟩ (Past.refl _ _) rfl
    refine calmSteps_cons (fun u wq n hn hn2 hC hk K hK => ?_) ?_
    · obtain ⟨hT, hP, hg, hg1, hbg, hB0, hB6⟩ := hC
      have HT := Lib.hid hT; have HP := Lib.hid hP; clear hT hP
      simp only [calmKnown, List.getElem?_cons_zero, List.getElem?_cons_succ, and_true, Is] at hk
      have h11 := hk; clear hk
      simp only [h11] at hK ⊢
      clear h11
      obtain rfl := hn 4 rfl
      have hB := hB0 (by decide)
      clear hB0 hB6
      go_wp2_with fail
      refine (R5.out _ HT.out).mono ?_
      rintro e w2 ⟨rfl, ht, hgr⟩
      have hq := Past.grown (X := [b, w.heap.size]) hgr (by simp)
      exact hK _ _ _ rfl ⟨ht, HP.out.trans hq, Nat.lt_of_lt_of_le hg hq.1, hg1, hbg, fun _ => Blk.keepG hgr hB (by omega), fun h => absurd h (by decide)⟩ hq rfl
    refine calmSteps_cons (fun u wq n hn hn2 hC hk K hK => ?_) ?_
    · obtain ⟨hT, hP, hg, hg1, hbg, hB0, hB6⟩ := hC
      have HT := Lib.hid hT; have HP := Lib.hid hP; clear hT hP
      simp only [calmKnown, List.getElem?_cons_zero, List.getElem?_cons_succ, and_true, Is] at hk
      obtain ⟨h1, h3, h8, h10, h12⟩ := hk
      simp only [h1, h3, h8, h10, h12] at hK ⊢
      clear h1 h3 h8 h10 h12
      go_simp
      exact hK _ _ _ rfl ⟨HT.out, HP.out, hg, hg1, hbg, hB0, hB6⟩ (Past.refl _ _) rfl
    refine calmSteps_cons (fun u wq n hn hn2 hC hk K hK => ?_) ?_
    · obtain ⟨hT, hP, hg, hg1, hbg, hB0, hB6⟩ := hC
      have HT := Lib.hid hT; have HP := Lib.hid hP; clear hT hP
      simp only [calmKnown, List.getElem?_cons_zero, List.getElem?_cons_succ, and_true, Is] at hk
      have h13 := hk; clear hk
      simp only [h13] at hK ⊢
      clear h13
      obtain rfl := hn 5 rfl
      have hB := hB0 (by decide)
      clear hB0 hB6
      have hf := hB.frozen
      have hc := hB.cell
      go_simp
      have hB2 := setAll_blk [.int .i64 v0, .int .i64 v1, .int .i64 v2, .int .i64 v3, .int .i64 v4, .int .i64 v5] 0 wq _ hB
      simp only [setArr, List.setIfInBounds_toArray, List.set_cons_zero, List.set_cons_succ, Nat.zero_add, Nat.reduceAdd] at hB2
      have hP2 := setAll_past (X := [b, w.heap.size]) (W := w) (g := w.heap.size) (Nat.le_refl _) [.int .i64 v0, .int .i64 v1, .int .i64 v2, .int .i64 v3, .int .i64 v4, .int .i64 v5] 0 wq HP.out
      have hT2 : TapeZ (setAll wq w.heap.size 0 [.int .i64 v0, .int .i64 v1, .int .i64 v2, .int .i64 v3, .int .i64 v4, .int .i64 v5]) b zs (k + mzPos 6) := HT.out.kept (fun q hq => setAll_other (by omega) _ _ _)
      have hq2 : Past [b, w.heap.size] wq (setAll wq w.heap.size 0 [.int .i64 v0, .int .i64 v1, .int .i64 v2, .int .i64 v3, .int .i64 v4, .int .i64 v5]) := setAll_in (by simp) _ 0 wq
      exact hK _ undef (setAll wq w.heap.size 0 [.int .i64 v0, .int .i64 v1, .int .i64 v2, .int .i64 v3, .int .i64 v4, .int .i64 v5]) rfl ⟨hT2, hP2, by rw [setAll_size]; exact hg, hg1, hbg, fun h => absurd h (by decide), fun _ => hB2⟩ hq2 trivial
    exact calmSteps_nil
  · intro u w' hC hF
    clear hF
    obtain ⟨hT, hP, hg, hg1, hbg, -, hB6⟩ := hC
    have hB := hB6 rfl
    have hT2 := Lib.hid hT; have hP2 := Lib.hid hP; clear hT hP hB6
    have hc := hB.cell
    go_wp2
    exact bodyPost_ret (v := .agg #[.int .i64 v0, .int .i64 v1, .int .i64 v2, .int .i64 v3, .int .i64 v4, .int .i64 v5]) (by simp [results, Try.results41, go_sem, *]) rfl ⟨rfl, hT2.out, hP2.out.grownBy (Nat.le_refl _)⟩
end Go.Proofs.Ytlfkkfdolnkjfaa
