/- Texts joined: Draw, Draw2, PoolQ -/
import Derived.Lib.SmallJoins
import Derived.Test.YtlnboheahbfgfaaGreatCalmP
import Derived.Test.YtlnboheahbfgfaaGreatJ0
import Derived.Test.YtlnboheahbfgfaaGreatPoolP
import Derived.Test.YtlnboheahbfgfaaGreatJ17
import Derived.Test.YtlnboheahbfgfaaGreatKitG
import Derived.Test.YtlnboheahbfgfaaGreatJ16
namespace Go.Proofs.YtlnboheahbfgfaaGreat
open Go.RowKit
set_option linter.unusedSimpArgs false
set_option linter.unusedVariables false

/-- What Random gives. -/
def randS (v : Int) : List Int := shaS ([99, 97, 115, 101] ++ putB (IntKind.u64.wrap v) 8)
theorem shaS_len (bs : List Int) : (shaS bs).length = 32 := by unfold shaS; rw [outQ_len]
theorem shaS_in (bs : List Int) : InB (shaS bs) := by unfold shaS; exact outQ_in _ _
theorem u64_in (v : Int) : 0 ≤ IntKind.u64.wrap v ∧ IntKind.u64.wrap v < 18446744073709551616 := by
  simp [IntKind.wrap, IntKind.bits, IntKind.signed]; omega
set_option maxRecDepth 100000 in
set_option maxHeartbeats 2000000 in
theorem random_any (v : Int) (w : World) : Calls Tryz.prog 14 #[.int .i64 v, .int .i64 32] w (FinR w (randS v)) := by
  obtain ⟨R, hR⟩ : ∃ R, randS v = R := ⟨_, rfl⟩
  rw [hR]
  obtain ⟨u, hu⟩ : ∃ u, IntKind.u64.wrap v = u := ⟨_, rfl⟩
  have hu0 := u64_in v
  rw [hu] at hu0
  obtain ⟨bs, hbs⟩ : ∃ bs, [99, 97, 115, 101] ++ putB u 8 = bs := ⟨_, rfl⟩
  have hl : bs.length = 12 := by rw [← hbs, List.length_append, putB_length]; rfl
  have hin : InB bs := by rw [← hbs]; exact InB.app (fun x hx => by simp at hx; omega) (putB_in _ _)
  have HRR := Lib.hid (show ∃ f, f = shaS ∧ f bs = R from ⟨_, rfl, by rw [← hR, ← hbs, ← hu]; rfl⟩)
  have HL := Lib.hid hl; have HIN := Lib.hid hin; have HBS := Lib.hid hbs
  clear hR hl hin hbs
  have hcv := Go.Joins.run_convert_bytes_const_at (P := Tryz.prog) w 35 5 #[.int .u8 99, .int .u8 97, .int .u8 115, .int .u8 101] 4 4 w.heap.size rfl Tryz.underlying35 (by rfl)
  have h00 : BySl (w.alloc (.cells #[.int .u8 99, .int .u8 97, .int .u8 115, .int .u8 101] 5 (4, 5))) w.heap.size 0 [99, 97, 115, 101] :=
    ⟨by simp, fun j hj => by
      rw [Nat.zero_add, Go.Joins.cell_alloc_mark_at w _ _ _ _ j rfl]
      have hj4 : j < 4 := hj
      obtain rfl | rfl | rfl | rfl : j = 0 ∨ j = 1 ∨ j = 2 ∨ j = 3 := by omega
      all_goals rfl⟩
  have H00 := Lib.hid h00; clear h00
  go_enter Tryz.func14, Tryz.ntmps14
  go_wp2_with fail
  refine (rput_any u 8 hu0.1 hu0.2 (by decide) (by decide) _).mono ?_
  rintro e w1 ⟨g1, rfl, hg1, hl1, hby, hb1⟩
  have K1 : Below w.heap.size w w1 := kept_call hb1 ((Below.refl _ _).alloc (Nat.le_refl _) _)
  have H0 := Lib.hid (H00.out.below hb1); have H1 := Lib.hid hby.sl; have HK1 := Lib.hid K1; have Z1 := K1.size
  clear hby hb1 K1 hcv H00
  go_wp2_with fail
  refine (rjoin_any _ 2 2 [[99, 97, 115, 101], putB u 8] rfl (by intro p hp; simp only [List.mem_cons, List.not_mem_nil, or_false] at hp; rcases hp with rfl | rfl <;> simp [putB_length]) (by simp) bs (by rw [← HBS.out]; simp) (by rw [HL.out]; decide) (by simp) _ (parts2 (Blk.new _ _ _) rfl (H0.out.below ((Below.refl _ _).alloc (Nat.le_refl _) _)) (putB_length _ _) (H1.out.below ((Below.refl _ _).alloc (Nat.le_refl _) _)))).mono ?_
  rintro e w2 ⟨g2, c2, rfl, hg2, hl2, hrow, hb2⟩
  obtain ⟨gz, cz, ez, -, -, hat⟩ := hrow.form (by rw [HL.out]; decide)
  obtain rfl : g2 = gz := by injection ez with ez; simpa using ez
  rw [HL.out]
  have K2 : Below w.heap.size w w2 := kept_call hb2 (HK1.out.alloc (by omega) _)
  have HAT := Lib.hid hat.sl; have HK2 := Lib.hid K2; have Z2 := K2.size
  clear hrow ez hat hb2 K2 H0 H1 HK1
  go_wp2_with fail
  refine (rsum_any g2 0 _ 12 bs HL.out (by decide) (by decide) HIN.out _ HAT.out).mono ?_
  rintro e w3 ⟨g3, c3, rfl, hc3, hg3, hl3, hat, hb3⟩
  rw [show shaS bs = R from by obtain ⟨f, rfl, h⟩ := HRR.out; exact h] at hat
  have HR3 := Lib.hid hat; have HK3 := Lib.hid (kept_call hb3 HK2.out)
  clear hat hb3 HAT HK2
  have hc4 : (32 : Int) ≤ (c3 : Int) := by omega
  go_wp2
  go_ret
  exact ⟨g3, c3, rfl, hc3, by omega, hl3, HR3.out, HK3.out⟩
end Go.Proofs.YtlnboheahbfgfaaGreat
namespace Go.Proofs.YtlnboheahbfgfaaGreat
open Go.RowKit
set_option linter.unusedSimpArgs false
set_option linter.unusedVariables false

/-- Numbers in a block of one's own. -/
def IdAt (w : World) (g : Nat) (zs : List Int) : Prop := ∃ cur : Array Value, Blk w g 3 cur ∧ ∀ j, j < zs.length → cur[j]? = some (.int .i64 (zs.getD j 0))
theorem IdAt.below {w w' : World} {g : Nat} {zs : List Int} (h : IdAt w g zs) (hb : Below w.heap.size w w') : IdAt w' g zs := by
  obtain ⟨cur, hB, hc⟩ := h
  exact ⟨cur, Blk.keep hb hB, hc⟩
theorem IdAt.set {w : World} {g : Nat} {zs : List Int} (h : IdAt w g zs) (p : Nat) (y : Int) (hp : p < zs.length) : IdAt (w.setCell ⟨g, p, none⟩ (.int .i64 y)) g (zs.set p y) := by
  obtain ⟨cur, hB, hc⟩ := h
  refine ⟨_, hB.set_ p (.int .i64 y), fun j hj => ?_⟩
  rw [List.length_set] at hj
  have h1 := hc j hj
  have s1 : p < cur.size := (Array.getElem?_eq_some_iff.1 (hc p hp)).1
  rw [List.getD_eq_getElem?_getD, List.getElem?_set]
  by_cases e : p = j
  · subst e
    rw [if_pos rfl, if_pos hp, Array.getElem?_setIfInBounds_self_of_lt s1]; rfl
  · rw [if_neg e, ← List.getD_eq_getElem?_getD, Array.getElem?_setIfInBounds_ne e]; exact h1
theorem IdAt.cells {w : World} {g : Nat} {zs : List Int} (h : IdAt w g zs) (j : Nat) (hj : j < zs.length) : g < w.heap.size ∧ w.cell? ⟨g, j, none⟩ = some (.int .i64 (zs.getD j 0)) ∧ (∀ i, w.frozen? ⟨g, i, none⟩ = false) := by
  obtain ⟨cur, hB, hc⟩ := h
  exact ⟨hB.lt, (hB.cell j).trans (hc j hj), hB.frozen⟩
def icells (zs : List Int) : List Value := zs.map (.int .i64 ·)
theorem icells_length (zs : List Int) : (icells zs).length = zs.length := by simp [icells]
theorem icells_get (zs : List Int) (j : Nat) (hj : j < zs.length) : (icells zs)[j]? = some (.int .i64 (zs.getD j 0)) := by
  simp [icells, List.getD_eq_getElem?_getD, List.getElem?_eq_getElem hj]
theorem one_icells (zs : List Int) : ∀ u ∈ icells zs, u.oneCell' = true := by
  intro u hu
  simp only [icells, List.mem_map] at hu
  obtain ⟨x, -, rfl⟩ := hu
  rfl
theorem own_idat {w : World} {base n cap : Nat} {A : Option Addr} {zs : List Int} (h : w.ownsRow base 3 1 (.slice A n cap) n (icells zs)) (hn : zs.length = n) (h0 : 0 < n) : ∃ g, A = some ⟨g, 0, none⟩ ∧ base ≤ g ∧ g < w.heap.size ∧ IdAt w g zs := by
  rcases h.2 with ⟨_, hz⟩ | ⟨g, c, cur, hv, hb, hg, _, _, _, ht⟩
  · omega
  · injection hv with hv _ _
    refine ⟨g, hv, hb, (Array.getElem?_eq_some_iff.1 hg).1, cur, hg, fun j hj => ?_⟩
    rw [← icells_get zs j hj, ← ht, List.getElem?_take, if_pos (by omega), Array.getElem?_toList]
theorem infoI8 : (Tryz.prog.info? 3).map (fun i => (i.zero, i.size, i.bytes)) = some (some (.int .i64 0), 1, 8) := by kernel_rfl
theorem zeros_ints (n : Nat) : (madeCells #[(.int .i64 0 : Value)] n).toList = icells (List.replicate n 0) := by
  refine List.ext_getElem (by simp [madeCells, icells]) (fun i h1 h2 => ?_)
  simp [madeCells, icells, Nat.mod_one]
/-- The list while it is filled. -/
def filS (n q : Nat) : List Int := (List.range n).map fun i => if i < q then (i : Int) else 0
theorem filS_length (n q : Nat) : (filS n q).length = n := by simp [filS]
theorem filS_zero (n : Nat) : filS n 0 = List.replicate n 0 := by
  refine List.ext_getElem (by simp [filS]) (fun i h1 h2 => ?_)
  simp [filS]
theorem filS_all (f : Nat → Nat) (n : Nat) : filS n n = drS f n 0 := by
  refine List.ext_getElem (by simp [filS, drS]) (fun i h1 h2 => ?_)
  have : i < n := by simpa [filS] using h1
  simp [filS, drS, this]
theorem filS_step (n q : Nat) (hq : q < n) : (filS n q).set q (q : Int) = filS n (q + 1) := by
  refine List.ext_getElem (by simp [filS]) (fun i h1 h2 => ?_)
  rw [List.getElem_set]
  simp only [filS, List.getElem_map, List.getElem_range]
  by_cases e : q = i
  · subst e; simp
  · rw [if_neg e]
    by_cases h : i < q
    · rw [if_pos h, if_pos (by omega)]
    · rw [if_neg h, if_neg (by omega)]
/-- What the hash of the i-th draw is of; the draw. -/
def seedM (seed : List Int) (n i : Nat) : List Int := seed ++ putB n 8 ++ putB i 8
def drX (seed : List Int) (n i : Nat) : Int := gtS ((shaS (seedM seed n i)).take 8) 8
def drF (seed : List Int) (n i : Nat) : Nat := (drX seed n i % ((n - i : Nat) : Int)).toNat
theorem drF_ok (seed : List Int) (n k : Nat) (h : k ≤ n) : DrF (drF seed n) n k := fun i hi => by
  have h1 : 0 < ((n - i : Nat) : Int) := by omega
  have h2 := Int.emod_lt_of_pos (drX seed n i) h1
  have h3 := Int.emod_nonneg (drX seed n i) (Int.ne_of_gt h1)
  unfold drF
  omega
/-- The error of Draw; what it gives. -/
def drE (sl : Nat) (n k : Int) : Int := if sl ≠ 32 then 5 else if n < 1 ∨ 4096 < n ∨ k < 0 ∨ n < k ∨ 32 < k then 4 else 0
def drL (seed : List Int) (n k : Int) : List Int := if drE seed.length n k = 0 then (drS (drF seed n.toNat) n.toNat k.toNat).take k.toNat else []
def BysAt (w : World) (A : Option Addr) (len : Nat) (bs : List Int) : Prop := bs.length = len ∧ InB bs ∧ (0 < len → ∃ g off, A = some ⟨g, off, none⟩ ∧ BySl w g off bs)
theorem BysAt.below {w w' : World} {A : Option Addr} {len : Nat} {bs : List Int} (h : BysAt w A len bs) (hb : Below w.heap.size w w') : BysAt w' A len bs :=
  ⟨h.1, h.2.1, fun h0 => by obtain ⟨g, off, e, hs⟩ := h.2.2 h0; exact ⟨g, off, e, hs.below hb⟩⟩
/-- Numbers at a place. -/
def NsAt (w : World) (A : Option Addr) (zs : List Int) : Prop := 0 < zs.length → ∃ g off, A = some ⟨g, off, none⟩ ∧ g < w.heap.size ∧ ∀ j, j < zs.length → w.cell? ⟨g, off + j, none⟩ = some (.int .i64 (zs.getD j 0))
theorem NsAt.below {w w' : World} {A : Option Addr} {zs : List Int} (h : NsAt w A zs) (hb : Below w.heap.size w w') : NsAt w' A zs := fun h0 => by
  obtain ⟨g, off, e, hg, hc⟩ := h h0
  exact ⟨g, off, e, Nat.lt_of_lt_of_le hg hb.size, fun j hj => cell_below hb (hc j hj)⟩
def DrawR (w : World) (zs : List Int) (x : Int) (e : Ending) (w' : World) : Prop := ∃ A c, e = .returned (.tuple #[.slice A zs.length c, .int .i64 x]) ∧ zs.length ≤ c ∧ (A = none ∨ ∃ g, A = some ⟨g, 0, none⟩ ∧ w.heap.size ≤ g) ∧ NsAt w' A zs ∧ Below w.heap.size w w'
theorem NsAt.far {w : World} {A : Option Addr} {zs : List Int} {base : Nat} (h : NsAt w A zs) (hA : A = none ∨ ∃ g, A = some ⟨g, 0, none⟩ ∧ base ≤ g) {p : Addr} (hp : p.block < base) (v : Value) : NsAt (w.setCell p v) A zs := fun h0 => by
  obtain ⟨g, off, e, hg, hc⟩ := h h0
  rcases hA with rfl | ⟨g', rfl, hb⟩
  · cases e
  · cases e
    exact ⟨_, 0, rfl, by simpa [World.setCell] using hg, fun j hj => by rw [World.cell?_of_block (Below.heap_setCell _ _ _ _ (by simp only; omega))]; exact hc j hj⟩
theorem NsAt.nil (w : World) (A : Option Addr) : NsAt w A [] := fun h => by simp at h
theorem IdAt.ns {w : World} {g : Nat} {zs : List Int} (h : IdAt w g zs) (k : Nat) (hk : k ≤ zs.length) : NsAt w (some ⟨g, 0, none⟩) (zs.take k) := fun h0 => by
  rw [List.length_take] at h0
  refine ⟨g, 0, rfl, (h.cells 0 (by omega)).1, fun j hj => ?_⟩
  rw [List.length_take] at hj
  rw [Nat.zero_add, (h.cells j (by omega)).2.1, List.getD_eq_getElem?_getD, List.getD_eq_getElem?_getD, List.getElem?_take, if_pos (by omega)]
theorem own_ns {w : World} {base : Nat} {v : Value} {zs : List Int} (h : w.ownsRow base 3 1 v zs.length (icells zs)) : ∃ A c, v = .slice A zs.length c ∧ zs.length ≤ c ∧ (A = none ∨ ∃ g, A = some ⟨g, 0, none⟩ ∧ base ≤ g) ∧ NsAt w A zs := by
  rcases h.2 with ⟨rfl, hz⟩ | ⟨g, c, cur, rfl, hb, hg, hnc, _, _, ht⟩
  · refine ⟨none, 0, by rw [hz], by omega, .inl rfl, fun h0 => by omega⟩
  · refine ⟨_, c, rfl, hnc, .inr ⟨g, rfl, hb⟩, fun h0 => ⟨g, 0, rfl, (Array.getElem?_eq_some_iff.1 hg).1, fun j hj => ?_⟩⟩
    rw [Nat.zero_add, ← icells_get zs j hj, ← ht, List.getElem?_take, if_pos (by omega), Array.getElem?_toList]
    exact cell_of_row w g j cur 3 (0, 0) hg
theorem drL_in {seed : List Int} {n k : Int} (h : drE seed.length n k = 0) : (drL seed n k).length = k.toNat ∧ 1 ≤ n ∧ n ≤ 4096 ∧ 0 ≤ k ∧ k ≤ n ∧ k ≤ 32 ∧ seed.length = 32 := by
  have h0 := h
  unfold drE at h
  split at h
  · omega
  · split at h
    · omega
    · rename_i h1 h2
      refine ⟨?_, by omega, by omega, by omega, by omega, by omega, by omega⟩
      unfold drL
      rw [if_pos h0, List.length_take, drS_length]; omega
def FlRel (w : World) (g n : Nat) (G : Nat) (i : Value) (wr : World) : Prop := ∃ q : Nat, q ≤ n ∧ G = n - q ∧ i = .int .i64 q ∧ IdAt wr g (filS n q) ∧ Below w.heap.size w wr
def SwRel (w : World) (g n k : Nat) (f : Nat → Nat) (G : Nat) (i : Value) (wr : World) : Prop := ∃ q : Nat, q ≤ k ∧ G = k - q ∧ i = .int .i64 q ∧ IdAt wr g (drS f n q) ∧ Below w.heap.size w wr
set_option maxRecDepth 100000 in
set_option maxHeartbeats 8000000 in
theorem odraw_any (A : Option Addr) (sl sc : Nat) (seed : List Int) (n k : Int) (hn : -9223372036854775808 ≤ n ∧ n ≤ 9223372036854775807) (hk : -9223372036854775808 ≤ k ∧ k ≤ 9223372036854775807) (w : World) (h : BysAt w A sl seed) :
    Calls Tryz.prog 15 #[.slice A sl sc, .int .i64 n, .int .i64 k] w (DrawR w (drL seed n k) (drE seed.length n k)) := by
  have hsl := h.1
  by_cases h5 : sl = 32
  rotate_left
  · have g5 : decide (((sl : Nat) : Int) = 32) = false := decide_eq_false (by omega)
    have g5n : decide (sl = 32) = false := decide_eq_false h5
    have g5b : (((sl : Nat) : Int) == 32) = false := by rw [beq_eq_false_iff_ne]; omega
    have hE : drE seed.length n k = 5 := by rw [hsl]; unfold drE; rw [if_pos (by omega)]
    have hL : drL seed n k = [] := by unfold drL; rw [hE]; rfl
    rw [hE, hL]
    go_enter Tryz.func15, Tryz.ntmps15
    go_wp2
    go_ret2
    exact ⟨none, 0, rfl, Nat.le_refl _, .inl rfl, NsAt.nil _ _, Below.refl _ _⟩
  · subst h5
    obtain ⟨gs, os, rfl, hss⟩ := h.2.2 (by decide)
    have hsi := h.2.1
    clear h
    by_cases h1 : n < 1
    · have g1 : decide (n < 1) = true := decide_eq_true h1
      have hE : drE seed.length n k = 4 := by rw [hsl]; unfold drE; rw [if_neg (by omega), if_pos (.inl h1)]
      have hL : drL seed n k = [] := by unfold drL; rw [hE]; rfl
      rw [hE, hL]
      go_enter Tryz.func15, Tryz.ntmps15
      go_wp2
      go_ret2
      exact ⟨none, 0, rfl, Nat.le_refl _, .inl rfl, NsAt.nil _ _, Below.refl _ _⟩
    have g1 : decide (n < 1) = false := decide_eq_false h1
    by_cases h2 : 4096 < n
    · have g2 : decide (4096 < n) = true := decide_eq_true h2
      have hE : drE seed.length n k = 4 := by rw [hsl]; unfold drE; rw [if_neg (by omega), if_pos (.inr (.inl h2))]
      have hL : drL seed n k = [] := by unfold drL; rw [hE]; rfl
      rw [hE, hL]
      go_enter Tryz.func15, Tryz.ntmps15
      go_wp2
      go_ret2
      exact ⟨none, 0, rfl, Nat.le_refl _, .inl rfl, NsAt.nil _ _, Below.refl _ _⟩
    have g2 : decide (4096 < n) = false := decide_eq_false h2
    by_cases h3 : k < 0
    · have g3 : decide (k < 0) = true := decide_eq_true h3
      have hE : drE seed.length n k = 4 := by rw [hsl]; unfold drE; rw [if_neg (by omega), if_pos (.inr (.inr (.inl h3)))]
      have hL : drL seed n k = [] := by unfold drL; rw [hE]; rfl
      rw [hE, hL]
      go_enter Tryz.func15, Tryz.ntmps15
      go_wp2
      go_ret2
      exact ⟨none, 0, rfl, Nat.le_refl _, .inl rfl, NsAt.nil _ _, Below.refl _ _⟩
    have g3 : decide (k < 0) = false := decide_eq_false h3
    by_cases h4 : min n 32 < k
    · have h4d : decide (min n 32 < k) = true := decide_eq_true h4
      have hE : drE seed.length n k = 4 := by rw [hsl]; unfold drE; rw [if_neg (by omega), if_pos (by omega)]
      have hL : drL seed n k = [] := by unfold drL; rw [hE]; rfl
      rw [hE, hL]
      go_enter Tryz.func15, Tryz.ntmps15
      go_wp2
      go_ret2
      exact ⟨none, 0, rfl, Nat.le_refl _, .inl rfl, NsAt.nil _ _, Below.refl _ _⟩
    have h4d : decide (min n 32 < k) = false := decide_eq_false h4
    have hE : drE seed.length n k = 0 := by rw [hsl]; unfold drE; rw [if_neg (by omega), if_neg (by omega)]
    obtain ⟨m, rfl⟩ : ∃ m : Nat, n = (m : Int) := ⟨n.toNat, by omega⟩
    obtain ⟨l, rfl⟩ : ∃ l : Nat, k = (l : Int) := ⟨k.toNat, by omega⟩
    have hL : drL seed m l = (drS (drF seed m) m l).take l := by unfold drL; rw [if_pos hE]; rfl
    rw [hE, hL]
    clear hE hL
    have m1 : 1 ≤ m := by omega
    have m2 : m ≤ 4096 := by omega
    have l1 : l ≤ m := by omega
    have l2 : l ≤ 32 := by omega
    obtain ⟨i0, hif, hz0, hz1, hz2⟩ := info_parts infoI8
    obtain ⟨f, hf⟩ : ∃ f, drF seed m = f := ⟨_, rfl⟩
    have hdr : DrF f m l := hf ▸ drF_ok seed m l l1
    rw [hf]
    have HF := Lib.hid hf; have HDR := Lib.hid hdr; have HSE := Lib.hid hss; have HSI := Lib.hid hsi; have HSL := Lib.hid hsl
    have hgs := hss.1
    clear hf hdr hss hsi hsl hn hk h1 h2 h3 h4
    go_enter Tryz.func15, Tryz.ntmps15
    go_wp2_with (at_make; refine wpList_make_full _ rfl _ _ 22 rfl w.heap.size 3 i0 (.int .i64 0) 1 Tryz.underlying22 hif hz0 hz1 .i64 .i64 _ _ m rfl rfl (by first | rfl | omega) (by first | rfl | omega) (by rw [hz2]; omega) (by unfold maxLen; omega) (Nat.le_refl _) ?_)
    intro w1 hown hgrow
    have K1 : Below w.heap.size w w1 := (Below.refl _ _).grown hgrow (Nat.le_refl _) (fun k hk => by cases hk)
    have hrow := hown
    rw [show (madeCells _ _).toList = icells (List.replicate m 0) from by first | exact zeros_ints m | (rw [Nat.mul_one]; exact zeros_ints m)] at hrow
    obtain ⟨g, e, hg1, hg2, hby⟩ := own_idat hrow (by simp) (by omega)
    obtain rfl : g = w.heap.size := by injection e with e; injection e with e; first | exact e.symm | exact e
    rw [← filS_zero m] at hby
    have HBY := Lib.hid hby; have HK1 := Lib.hid K1; have Z1 := K1.size
    clear hown hgrow hrow e hby K1
    go_wp2
    go_loopg [38] m (fun G i wr => FlRel w w.heap.size m G i wr)
    case atStart => exact ⟨0, by omega, by omega, rfl, HBY.out, HK1.out⟩
    case round =>
      obtain ⟨q, hq, rfl, rfl, hby, KR⟩ := hrel
      have ZR := KR.size
      have HBq := Lib.hid hby; have HKR := Lib.hid KR; clear hby KR HBY HK1
      by_cases hlt : q < m
      · have gq : decide ((q : Int) < (m : Int)) = true := decide_eq_true (by omega)
        have gqn : decide (q < m) = true := decide_eq_true hlt
        have wq : IntKind.i64.wrap ((q : Int) + 1) = ((q + 1 : Nat) : Int) := by rw [IntWalk.i64_in _ (by omega)]; omega
        obtain ⟨hl, hc, hf⟩ := HBq.out.cells q (by rw [filS_length]; omega)
        have hset := HBq.out.set q (q : Int) (by rw [filS_length]; omega)
        rw [filS_step m q hlt] at hset
        have HS2 := Lib.hid hset; clear hset
        go_wp2
        go_roundg (m - (q + 1))
        case measure => omega
        case rel => exact ⟨q + 1, by omega, by omega, by go_num, HS2.out, HKR.out.setCell (by simp) _⟩
      · obtain rfl : q = m := by omega
        have gq : decide ((q : Int) < (q : Int)) = false := decide_eq_false (by omega)
        have hby := HBq.out
        rw [filS_all f] at hby
        have HBY := Lib.hid hby; clear hby HBq
        obtain ⟨w2, rfl⟩ : ∃ x : World, x = wr := ⟨_, rfl⟩
        go_wp2
        go_loopg [47] l (fun G i wr => SwRel w w.heap.size q l f G i wr)
        case atStart => exact ⟨0, by omega, by omega, rfl, HBY.out, HKR.out⟩
        case round =>
          obtain ⟨p, hp, rfl, rfl, hby, KR⟩ := hrel
          have ZR2 := KR.size
          have HBp := Lib.hid hby; have HKP := Lib.hid KR; clear hby KR HBY HKR
          by_cases hlp : p < l
          · have gp : decide ((p : Int) < (l : Int)) = true := decide_eq_true (by omega)
            have gpn : decide (p < l) = true := decide_eq_true hlp
            have wp : IntKind.i64.wrap ((p : Int) + 1) = ((p + 1 : Nat) : Int) := by rw [IntWalk.i64_in _ (by omega)]; omega
            have wuq : IntKind.u64.wrap (q : Int) = (q : Int) := by simp [IntKind.wrap, IntKind.bits, IntKind.signed]; omega
            have wup : IntKind.u64.wrap (p : Int) = (p : Int) := by simp [IntKind.wrap, IntKind.bits, IntKind.signed]; omega
            obtain ⟨bs, hbs⟩ : ∃ bs, seedM seed q p = bs := ⟨_, rfl⟩
            have hbl : bs.length = 48 := by rw [← hbs, seedM, List.length_append, List.length_append, putB_length, putB_length, HSL.out]
            have hbi : InB bs := by rw [← hbs]; exact (InB.app (InB.app HSI.out (putB_in _ _)) (putB_in _ _))
            have HBS := Lib.hid hbs; have HBL := Lib.hid hbl; have HBI := Lib.hid hbi; clear hbs hbl hbi
            obtain ⟨D, hD⟩ : ∃ D : Nat, q - p = D := ⟨_, rfl⟩
            have wD : IntKind.i64.wrap ((q : Int) - (p : Int)) = (D : Int) := by rw [IntWalk.i64_in _ (by omega)]; omega
            have wuD : IntKind.u64.wrap (D : Int) = (D : Int) := by simp [IntKind.wrap, IntKind.bits, IntKind.signed]; omega
            have gD : decide ((D : Int) = 0) = false := decide_eq_false (by omega)
            have gDb : ((D : Int) == 0) = false := by rw [beq_eq_false_iff_ne]; omega
            have gDn : D ≠ 0 := by omega
            have hs1 := HSE.out.below HKP.out
            have HS1 := Lib.hid hs1; clear hs1
            go_wp2_with fail
            refine (oput_any (q : Int) 8 (by omega) (by omega) (by decide) (by decide) _).mono ?_
            rintro e w3 ⟨g3, rfl, hg3, hl3, hby, hb3⟩
            have HB3 := Lib.hid hby.sl; have HS3 := Lib.hid (HS1.out.below hb3); have K3 := Lib.hid hb3; have Z3 := hb3.size
            clear hby hb3 HS1
            go_wp2_with fail
            refine (oput_any (p : Int) 8 (by omega) (by omega) (by decide) (by decide) _).mono ?_
            rintro e w4 ⟨g4, rfl, hg4, hl4, hby, hb4⟩
            have HB4 := Lib.hid hby.sl; have HS4 := Lib.hid (HS3.out.below hb4); have HB34 := Lib.hid (HB3.out.below hb4); have K4 := Lib.hid (kept_call hb4 K3.out); have Z4 := hb4.size
            clear hby hb4 HS3 HB3 K3
            go_wp2_with fail
            refine (octjoin_any _ 3 3 [seed, putB (q : Int) 8, putB (p : Int) 8] rfl (by intro x hx; simp only [List.mem_cons, List.not_mem_nil, or_false] at hx; rcases hx with rfl | rfl | rfl <;> simp [putB_length, HSL.out]) (by simp) bs (by rw [← HBS.out]; simp [seedM]) (by rw [HBL.out]; decide) (by simp) _ (parts3 (Blk.new _ _ _) HSL.out (HS4.out.below ((Below.refl _ _).alloc (Nat.le_refl _) _)) (putB_length _ _) (HB34.out.below ((Below.refl _ _).alloc (Nat.le_refl _) _)) (putB_length _ _) (HB4.out.below ((Below.refl _ _).alloc (Nat.le_refl _) _)))).mono ?_
            rintro e w5 ⟨g5, c5, rfl, hg5, hl5, hrow, hb5⟩
            obtain ⟨gz, cz, ez, -, -, hat⟩ := hrow.form (by rw [HBL.out]; decide)
            obtain rfl : g5 = gz := by injection ez with ez; simpa using ez
            rw [HBL.out]
            have K5 : Below wr.heap.size wr w5 := kept_call hb5 (K4.out.alloc (by omega) _)
            have HAT := Lib.hid hat.sl; have HK5 := Lib.hid K5; have Z5 := K5.size
            clear hrow ez hat hb5 K5 HS4 HB34 HB4 K4
            go_wp2_with fail
            refine (hsum_any g5 0 _ 48 bs HBL.out (by decide) (by decide) HBI.out _ HAT.out).mono ?_
            rintro e w6 ⟨g6, c6, rfl, hc6, hg6, hl6, hat, hb6⟩
            have hx8 : ((shaS bs).take 8).length = 8 := by rw [List.length_take, shaS_len]; decide
            have hxi : InB ((shaS bs).take 8) := fun x hx => shaS_in bs x (List.mem_of_mem_take hx)
            have H8 := Lib.hid (hat.sl.head 8 (by rw [shaS_len]; decide))
            obtain ⟨b8, hb8⟩ : ∃ b8, (shaS bs).take 8 = b8 := ⟨_, rfl⟩
            rw [hb8] at hx8 hxi H8
            have K6 := Lib.hid (kept_call hb6 HK5.out); have Z6 := hb6.size
            have HX8 := Lib.hid (And.intro hx8 hxi)
            have HBB := Lib.hid (show ∃ fn, fn = shaS ∧ (fn bs).take 8 = b8 from ⟨_, rfl, hb8⟩)
            clear hat hb6 hx8 hxi hb8 HAT HK5
            have hc8 : (8 : Int) ≤ (c6 : Int) := by omega
            go_wp2_with fail
            refine (oget_any g6 0 _ b8 HX8.out.1 HX8.out.2 _ H8.out).mono ?_
            rintro e w7 ⟨rfl, hb7⟩
            obtain ⟨X, hX⟩ : ∃ X, gtS b8 8 = X := ⟨_, rfl⟩
            have hX0 : 0 ≤ X ∧ X < 18446744073709551616 := hX ▸ gtS_in b8 8
            rw [hX]
            have hfp : f p = (X % (D : Int)).toNat := by
              obtain ⟨fn, rfl, h⟩ := HBB.out
              rw [← HF.out, drF, hD, drX, HBS.out, h, hX]
            have hx1 := Int.emod_lt_of_pos X (show (0 : Int) < (D : Int) by omega)
            have hx2 := Int.emod_nonneg X (show (D : Int) ≠ 0 by omega)
            have hfq := HDR.out p hlp
            obtain ⟨r, hr⟩ : ∃ r, f p = r := ⟨_, rfl⟩
            rw [hr] at hfp hfq
            have tm : Int.tmod X (D : Int) = (r : Int) := by rw [Int.tmod_eq_emod_of_nonneg hX0.1, hfp]; omega
            have em : X % (D : Int) = (r : Int) := by rw [hfp]; omega
            have wr0 : IntKind.i64.wrap (r : Int) = (r : Int) := IntWalk.i64_in _ (by omega)
            obtain ⟨j, hj⟩ : ∃ j, p + r = j := ⟨_, rfl⟩
            have wj : IntKind.i64.wrap ((p : Int) + (r : Int)) = (j : Int) := by rw [IntWalk.i64_in _ (by omega)]; omega
            have jq : (j : Int) < (q : Int) := by omega
            have jqn : j < q := by omega
            have pq : (p : Int) < (q : Int) := by omega
            have pqn : p < q := by omega
            have HB7 := Lib.hid (HBp.out.below (kept_call hb7 K6.out)); have HK7 := Lib.hid (kept_call (kept_call hb7 K6.out) HKP.out)
            have hst : drS f q (p + 1) = swp (drS f q p) p j := by rw [drS, hr, hj]
            have hlen := drS_length f q p
            obtain ⟨zs, hzs⟩ : ∃ zs, drS f q p = zs := ⟨_, rfl⟩
            rw [hzs] at hst hlen HB7
            unfold swp at hst
            obtain ⟨x, hx⟩ : ∃ x, zs.getD p 0 = x := ⟨_, rfl⟩
            obtain ⟨y, hy⟩ : ∃ y, zs.getD j 0 = y := ⟨_, rfl⟩
            rw [hx, hy] at hst
            have HST := Lib.hid hst; have HX := Lib.hid hx; have HY := Lib.hid hy; have HLN := Lib.hid hlen
            have lg7 : w.heap.size < w7.heap.size := (HB7.out.cells p (by omega)).1
            have Z7 := HK7.out.size
            clear hst hx hy hlen hzs hfp hfq hr hj hX hX0 hb7 hx1 hx2 K6 HBp HKP HX8 HBB H8 HBS HBL HBI
            go_wp2_with fail
            refine' wp_region_calm (by kernel_rfl) (fun n _ w' => Below w.heap.size w w' ∧ (n = 0 → Below w7.heap.size w7 w') ∧ (n = 1 → IdAt w' w.heap.size (zs.set p y)) ∧ (n = 2 → IdAt w' w.heap.size ((zs.set p y).set j x))) (fun _ _ => True) [(Is _), (Is _), (Is _), (Is _), (Is _), (Is _), (Is _), (Is _), (Is _), (Is _), (Is _), (Is _), (Is _), (Is _), (Is _), (Is _), (Is _), (fun _ _ _ => True), (Is _), (fun _ _ _ => True)] [[], [], [], [], [], [3, 4], [], [], [], [7, 8], [6, 9], [10], [], [], [12, 13], [14], [0, 1], [16, 11], [2, 5], [18, 15]] [17, 19] [] rfl (by kernel_rfl) (fun u => by (simp only [calmPut, Act.put, List.setIfInBounds_toArray, List.set_cons_zero, List.set_cons_succ, Nat.zero_add, Nat.reduceAdd]; rfl)) ?_ (calmKeep_cons keep_is' (calmKeep_cons keep_is' (calmKeep_cons keep_is' (calmKeep_cons keep_is' (calmKeep_cons keep_is' (calmKeep_cons keep_is' (calmKeep_cons keep_is' (calmKeep_cons keep_is' (calmKeep_cons keep_is' (calmKeep_cons keep_is' (calmKeep_cons keep_is' (calmKeep_cons keep_is' (calmKeep_cons keep_is' (calmKeep_cons keep_is' (calmKeep_cons keep_is' (calmKeep_cons keep_is' (calmKeep_cons keep_is' (calmKeep_cons keep_triv (calmKeep_cons keep_is' (calmKeep_cons keep_triv (calmKeep_nil))))))))))))))))))))) ?_ ?_
            · intro _
              exact ⟨(by first | exact HK7.out | exact HK7.out.drew), (fun _ => (Below.refl _ _).drew), (fun h => absurd h (by decide)), (fun h => absurd h (by decide))⟩
            rotate_left 18
            · skip
              refine calmSteps_cons (fun u wq n hn hn2 hC hk K hK => ?_) ?_
              · obtain ⟨hP, h0, h1, h2⟩ := hC
                clear hk
                go_simp
                exact hK _ _ _ rfl ⟨hP, h0, h1, h2⟩ trivial rfl
              refine calmSteps_cons (fun u wq n hn hn2 hC hk K hK => ?_) ?_
              · obtain ⟨hP, h0, h1, h2⟩ := hC
                clear hk
                go_simp
                exact hK _ _ _ rfl ⟨hP, h0, h1, h2⟩ trivial rfl
              refine calmSteps_cons (fun u wq n hn hn2 hC hk K hK => ?_) ?_
              · obtain ⟨hP, h0, h1, h2⟩ := hC
                clear hk
                go_simp
                exact hK _ _ _ rfl ⟨hP, h0, h1, h2⟩ trivial rfl
              refine calmSteps_cons (fun u wq n hn hn2 hC hk K hK => ?_) ?_
              · obtain ⟨hP, h0, h1, h2⟩ := hC
                clear hk
                go_simp
                exact hK _ _ _ rfl ⟨hP, h0, h1, h2⟩ trivial rfl
              refine calmSteps_cons (fun u wq n hn hn2 hC hk K hK => ?_) ?_
              · obtain ⟨hP, h0, h1, h2⟩ := hC
                clear hk
                go_simp
                exact hK _ _ _ rfl ⟨hP, h0, h1, h2⟩ trivial rfl
              refine calmSteps_cons (fun u wq n hn hn2 hC hk K hK => ?_) ?_
              · obtain ⟨hP, h0, h1, h2⟩ := hC
                simp only [calmKnown, List.getElem?_cons_zero, List.getElem?_cons_succ, and_true, Is, Pure, Option.some.injEq, List.getD_cons_zero, List.getD_cons_succ, List.map_cons, List.map_nil] at hk
                obtain ⟨h3, h4⟩ := hk
                simp only [h3, h4] at hK ⊢
                have H3 := Lib.hid h3; clear h3; have H4 := Lib.hid h4; clear h4
                go_simp
                exact hK _ _ _ rfl ⟨hP, h0, h1, h2⟩ trivial rfl
              refine calmSteps_cons (fun u wq n hn hn2 hC hk K hK => ?_) ?_
              · obtain ⟨hP, h0, h1, h2⟩ := hC
                clear hk
                go_simp
                exact hK _ _ _ rfl ⟨hP, h0, h1, h2⟩ trivial rfl
              refine calmSteps_cons (fun u wq n hn hn2 hC hk K hK => ?_) ?_
              · obtain ⟨hP, h0, h1, h2⟩ := hC
                clear hk
                go_simp
                exact hK _ _ _ rfl ⟨hP, h0, h1, h2⟩ trivial rfl
              refine calmSteps_cons (fun u wq n hn hn2 hC hk K hK => ?_) ?_
              · obtain ⟨hP, h0, h1, h2⟩ := hC
                clear hk
                go_simp
                exact hK _ _ _ rfl ⟨hP, h0, h1, h2⟩ trivial rfl
              refine calmSteps_cons (fun u wq n hn hn2 hC hk K hK => ?_) ?_
              · obtain ⟨hP, h0, h1, h2⟩ := hC
                simp only [calmKnown, List.getElem?_cons_zero, List.getElem?_cons_succ, and_true, Is, Pure, Option.some.injEq, List.getD_cons_zero, List.getD_cons_succ, List.map_cons, List.map_nil] at hk
                obtain ⟨h7, h8⟩ := hk
                simp only [h7, h8] at hK ⊢
                have H7 := Lib.hid h7; clear h7; have H8 := Lib.hid h8; clear h8
                go_simp
                exact hK _ _ _ rfl ⟨hP, h0, h1, h2⟩ trivial rfl
              refine calmSteps_cons (fun u wq n hn hn2 hC hk K hK => ?_) ?_
              · obtain ⟨hP, h0, h1, h2⟩ := hC
                simp only [calmKnown, List.getElem?_cons_zero, List.getElem?_cons_succ, and_true, Is, Pure, Option.some.injEq, List.getD_cons_zero, List.getD_cons_succ, List.map_cons, List.map_nil] at hk
                obtain ⟨h6, h9⟩ := hk
                simp only [h6, h9] at hK ⊢
                have H6 := Lib.hid h6; clear h6; have H9 := Lib.hid h9; clear h9
                go_simp
                exact hK _ _ _ rfl ⟨hP, h0, h1, h2⟩ trivial rfl
              refine calmSteps_cons (fun u wq n hn hn2 hC hk K hK => ?_) ?_
              · obtain ⟨hP, h0, h1, h2⟩ := hC
                simp only [calmKnown, List.getElem?_cons_zero, List.getElem?_cons_succ, and_true, Is, Pure, Option.some.injEq, List.getD_cons_zero, List.getD_cons_succ, List.map_cons, List.map_nil] at hk
                have h10 := hk; clear hk
                simp only [h10] at hK ⊢
                have H10 := Lib.hid h10; clear h10
                have hn0 : n = 0 := Nat.le_zero.1 (hn2 0 17 rfl (by kernel_rfl))
                have hQ := h0 hn0
                obtain ⟨y9, y0, -⟩ := (HB7.out.below hQ).cells j (by rw [HLN.out]; omega)
                rw [HY.out] at y0
                go_simp
                exact hK _ _ _ rfl ⟨hP, h0, h1, h2⟩ trivial rfl
              refine calmSteps_cons (fun u wq n hn hn2 hC hk K hK => ?_) ?_
              · obtain ⟨hP, h0, h1, h2⟩ := hC
                clear hk
                go_simp
                exact hK _ _ _ rfl ⟨hP, h0, h1, h2⟩ trivial rfl
              refine calmSteps_cons (fun u wq n hn hn2 hC hk K hK => ?_) ?_
              · obtain ⟨hP, h0, h1, h2⟩ := hC
                clear hk
                go_simp
                exact hK _ _ _ rfl ⟨hP, h0, h1, h2⟩ trivial rfl
              refine calmSteps_cons (fun u wq n hn hn2 hC hk K hK => ?_) ?_
              · obtain ⟨hP, h0, h1, h2⟩ := hC
                simp only [calmKnown, List.getElem?_cons_zero, List.getElem?_cons_succ, and_true, Is, Pure, Option.some.injEq, List.getD_cons_zero, List.getD_cons_succ, List.map_cons, List.map_nil] at hk
                obtain ⟨h12, h13⟩ := hk
                simp only [h12, h13] at hK ⊢
                have H12 := Lib.hid h12; clear h12; have H13 := Lib.hid h13; clear h13
                go_simp
                exact hK _ _ _ rfl ⟨hP, h0, h1, h2⟩ trivial rfl
              refine calmSteps_cons (fun u wq n hn hn2 hC hk K hK => ?_) ?_
              · obtain ⟨hP, h0, h1, h2⟩ := hC
                simp only [calmKnown, List.getElem?_cons_zero, List.getElem?_cons_succ, and_true, Is, Pure, Option.some.injEq, List.getD_cons_zero, List.getD_cons_succ, List.map_cons, List.map_nil] at hk
                have h14 := hk; clear hk
                simp only [h14] at hK ⊢
                have H14 := Lib.hid h14; clear h14
                have hn0 : n = 0 := Nat.le_zero.1 (hn2 0 17 rfl (by kernel_rfl))
                have hQ := h0 hn0
                obtain ⟨y9, y0, -⟩ := (HB7.out.below hQ).cells p (by rw [HLN.out]; omega)
                rw [HX.out] at y0
                go_simp
                exact hK _ _ _ rfl ⟨hP, h0, h1, h2⟩ trivial rfl
              refine calmSteps_cons (fun u wq n hn hn2 hC hk K hK => ?_) ?_
              · obtain ⟨hP, h0, h1, h2⟩ := hC
                simp only [calmKnown, List.getElem?_cons_zero, List.getElem?_cons_succ, and_true, Is, Pure, Option.some.injEq, List.getD_cons_zero, List.getD_cons_succ, List.map_cons, List.map_nil] at hk
                obtain ⟨h0, h1⟩ := hk
                simp only [h0, h1] at hK ⊢
                have H0 := Lib.hid h0; clear h0; have H1 := Lib.hid h1; clear h1
                go_simp
                exact hK _ _ _ rfl ⟨hP, h0, h1, h2⟩ trivial rfl
              refine calmSteps_cons (fun u wq n hn hn2 hC hk K hK => ?_) ?_
              · obtain ⟨hP, h0, h1, h2⟩ := hC
                simp only [calmKnown, List.getElem?_cons_zero, List.getElem?_cons_succ, and_true, Is, Pure, Option.some.injEq, List.getD_cons_zero, List.getD_cons_succ, List.map_cons, List.map_nil] at hk
                obtain ⟨h16, h11⟩ := hk
                simp only [h16, h11] at hK ⊢
                have H16 := Lib.hid h16; clear h16; have H11 := Lib.hid h11; clear h11
                obtain rfl := hn 0 rfl
                have hq := HB7.out.below (h0 rfl)
                clear h0 h1 h2
                obtain ⟨y9, y0, yf⟩ := hq.cells p (by rw [HLN.out]; omega)
                have hq2 := hq.set p y (by rw [HLN.out]; omega)
                go_simp
                exact hK _ undef _ rfl ⟨hP.setCell (Nat.le_refl _) _, (fun h => absurd h (by decide)), (fun _ => hq2), (fun h => absurd h (by decide))⟩ trivial trivial
              refine calmSteps_cons (fun u wq n hn hn2 hC hk K hK => ?_) ?_
              · obtain ⟨hP, h0, h1, h2⟩ := hC
                simp only [calmKnown, List.getElem?_cons_zero, List.getElem?_cons_succ, and_true, Is, Pure, Option.some.injEq, List.getD_cons_zero, List.getD_cons_succ, List.map_cons, List.map_nil] at hk
                obtain ⟨h2, h5⟩ := hk
                simp only [h2, h5] at hK ⊢
                have H2 := Lib.hid h2; clear h2; have H5 := Lib.hid h5; clear h5
                go_simp
                exact hK _ _ _ rfl ⟨hP, h0, h1, h2⟩ trivial rfl
              refine calmSteps_cons (fun u wq n hn hn2 hC hk K hK => ?_) ?_
              · obtain ⟨hP, h0, h1, h2⟩ := hC
                simp only [calmKnown, List.getElem?_cons_zero, List.getElem?_cons_succ, and_true, Is, Pure, Option.some.injEq, List.getD_cons_zero, List.getD_cons_succ, List.map_cons, List.map_nil] at hk
                obtain ⟨h18, h15⟩ := hk
                simp only [h18, h15] at hK ⊢
                have H18 := Lib.hid h18; clear h18; have H15 := Lib.hid h15; clear h15
                obtain rfl := hn 1 rfl
                have hq := h1 rfl
                clear h0 h1 h2
                obtain ⟨y9, y0, yf⟩ := hq.cells j (by rw [List.length_set]; rw [HLN.out]; omega)
                have hq2 := hq.set j x (by rw [List.length_set]; rw [HLN.out]; omega)
                go_simp
                exact hK _ undef _ rfl ⟨hP.setCell (Nat.le_refl _) _, (fun h => absurd h (by decide)), (fun h => absurd h (by decide)), (fun _ => hq2)⟩ trivial trivial
              exact calmSteps_nil
            · intro u w8 hC hF
              obtain ⟨hP, -, -, h2⟩ := hC
              have h2 := h2 rfl
              clear hF
              have HP := Lib.hid hP; have H2 := Lib.hid h2; clear hP h2
              go_wp2
              go_roundg (l - (p + 1))
              case measure => omega
              case rel => exact ⟨p + 1, by omega, by omega, by go_num, by rw [HST.out]; exact H2.out, HP.out⟩
          · obtain rfl : p = l := by omega
            have gp : decide ((p : Int) < (p : Int)) = false := decide_eq_false (by omega)
            have hq1 : (p : Int) ≤ (q : Int) := by omega
            have hlen := drS_length f q p
            have hzl : ((drS f q p).take p).length = p := by rw [List.length_take]; omega
            have hns : ∀ j u, (icells ((drS f q p).take p))[j]? = some u → wr.cell? ((⟨w.heap.size, 0, none⟩ : Addr).add j) = some u := by
              intro j u hj
              have hl : j < ((drS f q p).take p).length := by have := (List.getElem?_eq_some_iff.1 hj).1; rwa [icells_length] at this
              rw [icells_get _ j hl] at hj
              rw [hzl] at hl
              rw [show (⟨w.heap.size, 0, none⟩ : Addr).add j = ⟨w.heap.size, j, none⟩ from by (simp [Addr.add] <;> omega), (HBp.out.cells j (by omega)).2.1]
              rw [List.getD_eq_getElem?_getD, List.getElem?_take, if_pos hl, ← List.getD_eq_getElem?_getD] at hj
              exact hj
            have HNS := Lib.hid hns; have HZL := Lib.hid hzl
            clear hns hzl hlen
            go_wp2_with (at_builtin; refine wpList_append_own _ rfl _ _ 22 rfl wr.heap.size 3 i0 (.int .i64 0) 1 8 Tryz.underlying22 hif hz0 hz1 hz2 rfl (by decide) (.slice none 0 0) 0 [] rfl (World.ownsRow_nil _ _ _ _) ⟨w.heap.size, 0, none⟩ p q (icells ((drS f q p).take p)) rfl (by rw [icells_length, HZL.out, Nat.mul_one]) HNS.out (one_icells _) (by unfold maxLen; omega) (by omega) (Nat.le_refl _) ?_)
            intro v9 w9 hown hgrow _
            have K9 : Below wr.heap.size wr w9 := (Below.refl _ _).grown hgrow (Nat.le_refl _) (fun k hk => by simp [Value.ownBlock] at hk)
            obtain ⟨A9, c9, rfl, hc9, hA9, hns9⟩ := own_ns (v := v9) (zs := (drS f q p).take p) (base := wr.heap.size) (w := w9) (by rw [HZL.out]; simpa using hown)
            have HN9 := Lib.hid hns9; have HK9 := Lib.hid (kept_call K9 HKP.out)
            clear hown hgrow K9 hns9
            go_wp2
            go_ret2
            exact ⟨A9, c9, rfl, hc9, hA9.imp id (fun ⟨g, h1, h2⟩ => ⟨g, h1, by omega⟩), HN9.out, HK9.out⟩
end Go.Proofs.YtlnboheahbfgfaaGreat
namespace Go.Proofs.YtlnboheahbfgfaaGreat
open Go.RowKit
set_option linter.unusedSimpArgs false
set_option linter.unusedVariables false

theorem take_getD (l : List Int) (n j : Nat) (h : j < n) : (l.take n).getD j 0 = l.getD j 0 := by
  rw [List.getD_eq_getElem?_getD, List.getD_eq_getElem?_getD, List.getElem?_take, if_pos h]
theorem drE_ok {sl m l : Nat} (h : sl = 32) (m1 : 1 ≤ m) (m2 : m ≤ 4096) (l1 : l ≤ m) (l2 : l ≤ 32) : drE sl (m : Int) (l : Int) = 0 := by
  unfold drE; rw [if_neg (by omega), if_neg (by omega)]
section
variable {seed : List Int} {m l : Nat} (h : seed.length = 32) (m1 : 1 ≤ m) (m2 : m ≤ 4096) (l1 : l ≤ m) (l2 : l ≤ 32)
include h m1 m2 l1 l2
theorem drL_eq : drL seed m l = (drS (drF seed m) m l).take l := by
  unfold drL; rw [if_pos (drE_ok h m1 m2 l1 l2)]; rfl
theorem drL_len : (drL seed m l).length = l := by
  rw [drL_eq h m1 m2 l1 l2, List.length_take, drS_length]; omega
theorem drL_get (j : Nat) (hj : j < l) : (drL seed m l).getD j 0 = (drS (drF seed m) m l).getD j 0 := by
  rw [drL_eq h m1 m2 l1 l2, take_getD _ _ _ hj]
theorem drL_rng (j : Nat) (hj : j < l) : 0 ≤ (drL seed m l).getD j 0 ∧ (drL seed m l).getD j 0 < m := by
  rw [drL_get h m1 m2 l1 l2 j hj]
  exact drS_in (drF_ok seed m l l1) l (Nat.le_refl _) j (by omega)
theorem drL_inj (i j : Nat) (hi : i < l) (hj : j < l) (e : (drL seed m l).getD i 0 = (drL seed m l).getD j 0) : i = j := by
  rw [drL_get h m1 m2 l1 l2 i hi, drL_get h m1 m2 l1 l2 j hj] at e
  exact drS_inj (drF_ok seed m l l1) l (Nat.le_refl _) i j (by omega) (by omega) e
end
end Go.Proofs.YtlnboheahbfgfaaGreat
