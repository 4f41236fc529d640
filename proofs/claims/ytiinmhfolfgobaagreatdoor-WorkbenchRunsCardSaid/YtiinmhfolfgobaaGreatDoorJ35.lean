/- Lemmas. -/
import Derived.Deep.AppendLies
import Derived.Deep.LoopGhost
import Derived.OwnWalk
import Derived.Test.YtiinmhfolfgobaaGreatDoorJ9
import Derived.Test.YtiinmhfolfgobaaGreatDoorJ10
set_option linter.unusedVariables false
set_option linter.unusedSimpArgs false
namespace Go.Proofs.YtiinmhfolfgobaaGreatDoor
open Go.RowKit
set_option maxHeartbeats 8000000
set_option maxRecDepth 100000
def ByAt (w : World) (g : Nat) (bs : List Int) : Prop := ∃ cur : Array Value, Blk w g 5 cur ∧ ∀ j, j < bs.length → cur[j]? = some (.int .u8 (bs.getD j 0))
def BySl (w : World) (g off : Nat) (bs : List Int) : Prop := g < w.heap.size ∧ ∀ j, j < bs.length → w.cell? ⟨g, off + j, none⟩ = some (.int .u8 (bs.getD j 0))
theorem BySl.below {w w' : World} {g off : Nat} {bs : List Int} (h : BySl w g off bs) (hb : Below w.heap.size w w') : BySl w' g off bs :=
 ⟨Nat.lt_of_lt_of_le h.1 hb.size, fun j hj => cell_below hb (h.2 j hj)⟩
theorem ByAt.sl {w : World} {g : Nat} {bs : List Int} (h : ByAt w g bs) : BySl w g 0 bs := by
 obtain ⟨cur, hB, hc⟩ := h
 refine ⟨hB.lt, fun j hj => ?_⟩
 rw [Nat.zero_add, hB.cell]; exact hc j hj
theorem ByAt.set {w : World} {g : Nat} {bs : List Int} (h : ByAt w g bs) (p : Nat) (y : Int) (hp : p < bs.length) : ByAt (w.setCell ⟨g, p, none⟩ (.int .u8 y)) g (bs.set p y) := by
 obtain ⟨cur, hB, hc⟩ := h
 refine ⟨_, hB.set_ p (.int .u8 y), fun j hj => ?_⟩
 rw [List.length_set] at hj
 have h1 := hc j hj
 have s1 : p < cur.size := (Array.getElem?_eq_some_iff.1 (hc p hp)).1
 rw [Y8, List.getElem?_set]
 by_cases e : p = j
 ·subst e
  rw [if_pos rfl, if_pos hp, Array.getElem?_setIfInBounds_self_of_lt s1]; rfl
 ·rw [if_neg e, ← Y8, Array.getElem?_setIfInBounds_ne e]; exact h1
theorem ByAt.cells {w : World} {g : Nat} {bs : List Int} (h : ByAt w g bs) (j : Nat) (hj : j < bs.length) : g < w.heap.size ∧ w.cell? ⟨g, j, none⟩ = some (.int .u8 (bs.getD j 0)) ∧ (∀ i, w.frozen? ⟨g, i, none⟩ = false) := by
 obtain ⟨cur, hB, hc⟩ := h
 exact ⟨hB.lt, (hB.cell j).trans (hc j hj), hB.frozen⟩
theorem infoU8 : (Tryz.prog.info? 5).map (fun i => (i.zero, i.size, i.bytes)) = some (some (.int .u8 0), 1, 1) := by kernel_rfl
def bcells (bs : List Int) : List Value := bs.map (.int .u8 ·)
theorem bcells_length (bs : List Int) : (bcells bs).length = bs.length := by simp [bcells]
theorem bcells_app (a b : List Int) : bcells (a ++ b) = bcells a ++ bcells b := by simp [bcells]
theorem bcells_get (bs : List Int) (j : Nat) (hj : j < bs.length) : (bcells bs)[j]? = some (.int .u8 (bs.getD j 0)) := by
 simp [bcells, Y8, Y9 hj]
theorem own_bytes {w : World} {base n cap : Nat} {A : Option Addr} {bs : List Int} (h : w.ownsRow base 5 1 (.slice A n cap) n (bcells bs)) (hn : bs.length = n) (h0 : 0 < n) : ∃ g, A = some ⟨g, 0, none⟩ ∧ base ≤ g ∧ g < w.heap.size ∧ ByAt w g bs := by
 rcases h.2 with ⟨_, hz⟩ | ⟨g, c, cur, hv, hb, hg, _, _, _, ht⟩
 ·omega
 ·injection hv with hv _ _
  refine ⟨g, hv, hb, (Array.getElem?_eq_some_iff.1 hg).1, cur, hg, fun j hj => ?_⟩
  rw [← bcells_get bs j hj, ← ht, List.getElem?_take, if_pos Yo, Array.getElem?_toList]
def putB (v : Int) (n : Nat) : List Int := (List.range n).map fun i => v / 256 ^ (n - 1 - i) % 256
theorem putB_length (v : Int) (n : Nat) : (putB v n).length = n := by simp [putB]
def putQ (v : Int) (n q : Nat) : List Int := (List.range n).map fun i => if i < q then 0 else v / 256 ^ (n - 1 - i) % 256
theorem putQ_length (v : Int) (n q : Nat) : (putQ v n q).length = n := by simp [putQ]
theorem putQ_zero (v : Int) (n : Nat) : putQ v n 0 = putB v n := by simp [putQ, putB]
theorem putQ_all (v : Int) (n : Nat) : putQ v n n = List.replicate n 0 := by
 refine List.ext_getElem (by simp [putQ]) (fun i h1 h2 => ?_)
 simp [putQ] at h1 ⊢
 intro h; omega
theorem putQ_step (v : Int) (n q : Nat) (hq : q < n) : (putQ v n (q + 1)).set q (v / 256 ^ (n - 1 - q) % 256) = putQ v n q := by
 refine List.ext_getElem (by simp [putQ]) (fun i h1 h2 => ?_)
 rw [List.getElem_set]
 simp only [putQ, List.getElem_map, List.getElem_range]
 by_cases e : q = i
 ·subst e; simp
 ·rw [if_neg e]
  by_cases c : i < q
  ·rw [if_pos Yo, if_pos c]
  ·rw [if_neg Yo, if_neg c]
theorem putQ_done (v : Int) (n q : Nat) (h : v / 256 ^ (n - q) = 0) (hv : 0 ≤ v) : putQ v n q = putB v n := by
 refine List.ext_getElem (by simp [putQ, putB]) (fun i h1 h2 => ?_)
 simp only [putQ, putB, List.getElem_map, List.getElem_range]
 by_cases c : i < q
 ·rw [if_pos c]
  have hi : i < n := by simpa [putQ] using h1
  have e : v / 256 ^ (n - 1 - i) = 0 := by
   have hp : (0 : Int) < 256 ^ (n - q) := Int.pow_pos Yd
   have h3 : v < 256 ^ (n - q) := by
    have := Int.lt_ediv_add_one_mul_self v hp
    rw [h] at this; omega
   have h4 : (256 : Int) ^ (n - q) ≤ 256 ^ (n - 1 - i) := by
    have h5 : (256 : Nat) ^ (n - q) ≤ 256 ^ (n - 1 - i) := Nat.pow_le_pow_right Yd Yo
    rw [show (256 : Int) = ((256 : Nat) : Int) from rfl, ← Int.natCast_pow, ← Int.natCast_pow]
    exact Int.ofNat_le.2 h5
   exact Int.ediv_eq_zero_of_lt hv Yo
  rw [e]; rfl
 ·rw [if_neg c]
def PutRel (w : World) (g : Nat) (v : Int) (n : Nat) (x i : Value) (G : Nat) (wr : World) : Prop := ∃ q : Nat, q ≤ n ∧ G = 0 + q ∧ i = .int .i64 ((q : Int) - 1) ∧ x = .int .u64 (v / 256 ^ (n - q)) ∧ ByAt wr g (putQ v n q) ∧ Below w.heap.size w wr
def PutBR (w : World) (v : Int) (n : Nat) (e : Ending) (w' : World) : Prop := ∃ g, e = .returned (.slice (some ⟨g, 0, none⟩) n n) ∧ w.heap.size ≤ g ∧ g < w'.heap.size ∧ ByAt w' g (putB v n) ∧ Below w.heap.size w w'
theorem zeros_bytes (n : Nat) : (madeCells #[(.int .u8 0 : Value)] n).toList = bcells (List.replicate n 0) := by
 refine List.ext_getElem (by simp [madeCells, bcells]) (fun i h1 h2 => ?_)
 simp [madeCells, bcells, Nat.mod_one]
theorem oput_any (v : Int) (n : Nat) (v0 : 0 ≤ v) (v1 : v < 18446744073709551616) (n0 : 1 ≤ n) (n1 : n ≤ 64) (w : World) :
  Calls Tryz.prog 202 #[.int .u64 v, .int .i64 n] w (PutBR w v n) := by
 have gn0 : decide ((n : Int) < 0) = false := Y3
 have gn1 : decide (64 < (n : Int)) = false := Y3
 have gn1n : decide (64 < n) = false := Y3
 have wn : IntKind.i64.wrap ((n : Int) - 1) = (n : Int) - 1 := IntWalk.i64_in _ Yo
 obtain ⟨i0, hif, hz0, hz1, hz2⟩ := info_parts infoU8
 go_enter Tryz.func202, Tryz.ntmps202
 go_wp2_with (at_make; refine wpList_make_full _ rfl _ _ 72 rfl w.heap.size 5 i0 (.int .u8 0) 1 Tryz.underlying72 hif hz0 hz1 .i64 .i64 _ _ n rfl rfl (by first | rfl | omega) (by first | rfl | omega) (by rw [hz2]; omega) (by unfold maxLen; omega) (Nat.le_refl _) ?_)
 intro w1 hown hgrow
 have K1 : Below w.heap.size w w1 := Yl.grown hgrow (Nat.le_refl _) (fun k hk => by cases hk)
 have hrow := hown
 rw [show (madeCells _ _).toList = bcells (List.replicate n 0) from by first | exact zeros_bytes n | (rw [Nat.mul_one]; exact zeros_bytes n)] at hrow
 obtain ⟨g, e, hg1, hg2, hby⟩ := own_bytes hrow Ys Yo
 obtain rfl : g = w.heap.size := by injection e with e; injection e with e; first | exact e.symm | exact e
 rw [← putQ_all v n] at hby
 have HBY := Yh hby; have HK1 := Yh K1; have Z1 := K1.size
 clear hown hgrow hrow e hby K1
 have HV0 := Yh (show v = v / 256 ^ (n - n) by rw [Nat.sub_self]; simp)
 go_wp2
 go_loopg [0, 6] n (fun G x i wr => PutRel w w.heap.size v n x i G wr)
 case atStart => exact ⟨n, Yo, Yo, rfl, by rw [← HV0.out], HBY.out, HK1.out⟩
 case round =>
  obtain ⟨q, hq, rfl, rfl, rfl, hby, KR⟩ := hrel
  have ZR := KR.size
  clear HV0
  have HBq := Yh hby; have HKR := Yh KR; clear hby KR HBY HK1
  obtain ⟨x, hx⟩ : ∃ x, v / 256 ^ (n - q) = x := ⟨_, rfl⟩
  have x0 : 0 ≤ x := by rw [← hx]; exact Int.ediv_nonneg v0 (Int.le_of_lt (Int.pow_pos Yd))
  have x1 : x ≤ v := by rw [← hx]; exact Int.ediv_le_self _ v0
  rw [hx]
  have HX := Yh hx; clear hx
  by_cases hlt : 0 < q
  ·obtain ⟨p, rfl⟩ : ∃ p, q = p + 1 := ⟨q - 1, Yo⟩
   have ep : (((p + 1 : Nat) : Int) - 1) = (p : Int) := by omega
   rw [ep]
   clear ep
   have gp : decide (0 ≤ (p : Int)) = true := Y2
   have gpn : decide (0 ≤ p) = true := Y2
   have hpn : p < n := by omega
   have gq : decide ((p : Int) < (n : Int)) = true := Y2
   have wp : IntKind.i64.wrap ((p : Int) - 1) = (p : Int) - 1 := IntWalk.i64_in _ Yo
   have w8 : IntKind.u8.wrap x = x % 256 := by simp [IntKind.wrap, IntKind.bits, IntKind.signed]
   have hdiv : v / 256 ^ (n - p) = x / 256 := by
    rw [← HX.out, Int.ediv_ediv_of_nonneg (Int.le_of_lt (Int.pow_pos Yd)), show n - p = (n - (p + 1)) + 1 by omega, Int.pow_succ]
   have hstep : (putQ v n (p + 1)).set p (x % 256) = putQ v n p := by
    have := putQ_step v n p hpn
    rw [show n - 1 - p = n - (p + 1) by omega, HX.out] at this; exact this
   obtain ⟨hl, hc, hf⟩ := HBq.out.cells p (by rw [putQ_length]; omega)
   have hset := HBq.out.set p (x % 256) (by rw [putQ_length]; omega)
   rw [hstep] at hset
   have HS := Yh hset; have HD := Yh hdiv; clear hset hdiv hstep
   by_cases hx0 : 0 < x
   ·have gx : decide (0 < x) = true := decide_eq_true hx0
    go_wp2
    go_roundg p
    case measure => omega
    case rel => exact ⟨p, Yo, Yo, rfl, by rw [HD.out], HS.out, (HKR.out.setCell Ys _)⟩
   ·have gx : decide (0 < x) = false := decide_eq_false hx0
    obtain rfl : x = 0 := by omega
    have hfin : putQ v n (p + 1) = putB v n := putQ_done v n (p + 1) HX.out v0
    have hb := HBq.out
    rw [hfin] at hb
    have HB := Yh hb; clear hb hfin
    go_wp2
    go_ret
    exact ⟨w.heap.size, rfl, Nat.le_refl _, hl, HB.out, HKR.out⟩
  ·obtain rfl : q = 0 := by omega
   have gp : decide (0 ≤ (((0 : Nat) : Int) - 1)) = false := by decide
   have gp2 : decide (0 ≤ (0 : Int) - 1) = false := by decide
   have gp3 : decide ((0 : Int) ≤ -1) = false := by decide
   have hb := HBq.out
   rw [putQ_zero] at hb
   have hl := (hb.cells 0 (by rw [putB_length]; omega)).1
   have HB := Yh hb; clear hb
   go_wp2
   go_ret
   exact ⟨w.heap.size, rfl, Nat.le_refl _, hl, HB.out, HKR.out⟩
theorem rput_any (v : Int) (n : Nat) (v0 : 0 ≤ v) (v1 : v < 18446744073709551616) (n0 : 1 ≤ n) (n1 : n ≤ 64) (w : World) :
  Calls Tryz.prog 188 #[.int .u64 v, .int .i64 n] w (PutBR w v n) := by
 have gn0 : decide ((n : Int) < 0) = false := Y3
 have gn1 : decide (64 < (n : Int)) = false := Y3
 have gn1n : decide (64 < n) = false := Y3
 have wn : IntKind.i64.wrap ((n : Int) - 1) = (n : Int) - 1 := IntWalk.i64_in _ Yo
 obtain ⟨i0, hif, hz0, hz1, hz2⟩ := info_parts infoU8
 go_enter Tryz.func188, Tryz.ntmps188
 go_wp2_with (at_make; refine wpList_make_full _ rfl _ _ 72 rfl w.heap.size 5 i0 (.int .u8 0) 1 Tryz.underlying72 hif hz0 hz1 .i64 .i64 _ _ n rfl rfl (by first | rfl | omega) (by first | rfl | omega) (by rw [hz2]; omega) (by unfold maxLen; omega) (Nat.le_refl _) ?_)
 intro w1 hown hgrow
 have K1 : Below w.heap.size w w1 := Yl.grown hgrow (Nat.le_refl _) (fun k hk => by cases hk)
 have hrow := hown
 rw [show (madeCells _ _).toList = bcells (List.replicate n 0) from by first | exact zeros_bytes n | (rw [Nat.mul_one]; exact zeros_bytes n)] at hrow
 obtain ⟨g, e, hg1, hg2, hby⟩ := own_bytes hrow Ys Yo
 obtain rfl : g = w.heap.size := by injection e with e; injection e with e; first | exact e.symm | exact e
 rw [← putQ_all v n] at hby
 have HBY := Yh hby; have HK1 := Yh K1; have Z1 := K1.size
 clear hown hgrow hrow e hby K1
 have HV0 := Yh (show v = v / 256 ^ (n - n) by rw [Nat.sub_self]; simp)
 go_wp2
 go_loopg [0, 6] n (fun G x i wr => PutRel w w.heap.size v n x i G wr)
 case atStart => exact ⟨n, Yo, Yo, rfl, by rw [← HV0.out], HBY.out, HK1.out⟩
 case round =>
  obtain ⟨q, hq, rfl, rfl, rfl, hby, KR⟩ := hrel
  have ZR := KR.size
  clear HV0
  have HBq := Yh hby; have HKR := Yh KR; clear hby KR HBY HK1
  obtain ⟨x, hx⟩ : ∃ x, v / 256 ^ (n - q) = x := ⟨_, rfl⟩
  have x0 : 0 ≤ x := by rw [← hx]; exact Int.ediv_nonneg v0 (Int.le_of_lt (Int.pow_pos Yd))
  have x1 : x ≤ v := by rw [← hx]; exact Int.ediv_le_self _ v0
  rw [hx]
  have HX := Yh hx; clear hx
  by_cases hlt : 0 < q
  ·obtain ⟨p, rfl⟩ : ∃ p, q = p + 1 := ⟨q - 1, Yo⟩
   have ep : (((p + 1 : Nat) : Int) - 1) = (p : Int) := by omega
   rw [ep]
   clear ep
   have gp : decide (0 ≤ (p : Int)) = true := Y2
   have gpn : decide (0 ≤ p) = true := Y2
   have hpn : p < n := by omega
   have gq : decide ((p : Int) < (n : Int)) = true := Y2
   have wp : IntKind.i64.wrap ((p : Int) - 1) = (p : Int) - 1 := IntWalk.i64_in _ Yo
   have w8 : IntKind.u8.wrap x = x % 256 := by simp [IntKind.wrap, IntKind.bits, IntKind.signed]
   have hdiv : v / 256 ^ (n - p) = x / 256 := by
    rw [← HX.out, Int.ediv_ediv_of_nonneg (Int.le_of_lt (Int.pow_pos Yd)), show n - p = (n - (p + 1)) + 1 by omega, Int.pow_succ]
   have hstep : (putQ v n (p + 1)).set p (x % 256) = putQ v n p := by
    have := putQ_step v n p hpn
    rw [show n - 1 - p = n - (p + 1) by omega, HX.out] at this; exact this
   obtain ⟨hl, hc, hf⟩ := HBq.out.cells p (by rw [putQ_length]; omega)
   have hset := HBq.out.set p (x % 256) (by rw [putQ_length]; omega)
   rw [hstep] at hset
   have HS := Yh hset; have HD := Yh hdiv; clear hset hdiv hstep
   go_wp2
   go_roundg p
   case measure => omega
   case rel => exact ⟨p, Yo, Yo, rfl, by rw [HD.out], HS.out, (HKR.out.setCell Ys _)⟩
  ·obtain rfl : q = 0 := by omega
   have gp : decide (0 ≤ (((0 : Nat) : Int) - 1)) = false := by decide
   have gp2 : decide (0 ≤ (0 : Int) - 1) = false := by decide
   have gp3 : decide ((0 : Int) ≤ -1) = false := by decide
   have hb := HBq.out
   rw [putQ_zero] at hb
   have hl := (hb.cells 0 (by rw [putB_length]; omega)).1
   have HB := Yh hb; clear hb
   go_wp2
   go_ret
   exact ⟨w.heap.size, rfl, Nat.le_refl _, hl, HB.out, HKR.out⟩
def rotS (x n : Int) : Int := bits .or .u32 (x / 2 ^ n.toNat) (x * 2 ^ (32 - n).toNat % 4294967296)
theorem bits_u32 (op : BinOp) (x y : Int) : 0 ≤ bits op .u32 x y ∧ bits op .u32 x y < 4294967296 := by
 have : ∀ z : Int, 0 ≤ IntKind.u32.wrap z ∧ IntKind.u32.wrap z < 4294967296 := fun z => by
  simp [IntKind.wrap, IntKind.bits, IntKind.signed]; omega
 exact this _
theorem bits_or_comm (k : IntKind) (x y : Int) : bits .or k x y = bits .or k y x := by
 unfold bits
 simp only [BitVec.or_comm]
theorem turn_any (x n : Int) (h0 : 0 ≤ x) (h1 : x < 4294967296) (n0 : 1 ≤ n) (n1 : n ≤ 31) (w : World) : Calls Tryz.prog 236 #[.int .u32 x, .int .i64 n] w fun e w' => e = .returned (.int .u32 (rotS x n)) ∧ w = w' := by
 have wn : IntKind.u64.wrap n = n := by simp [IntKind.wrap, IntKind.bits, IntKind.signed]; omega
 have wm : IntKind.i64.wrap (32 - n) = 32 - n := IntWalk.i64_in _ Yo
 have wm2 : IntKind.u64.wrap (32 - n) = 32 - n := by simp [IntKind.wrap, IntKind.bits, IntKind.signed]; omega
 go_enter Tryz.func236, Tryz.ntmps236
 go_wp2
 go_ret
 exact ⟨rfl, rfl⟩
theorem and31 : ∀ n : Fin 32, 1 ≤ n.val → bits .and .u64 (18446744073709551616 - (n.val : Int)) 31 = 32 - (n.val : Int) := by decide +kernel
theorem rotl_any (x n : Int) (h0 : 0 ≤ x) (h1 : x < 4294967296) (n0 : 1 ≤ n) (n1 : n ≤ 31) (w : World) : Calls Tryz.prog 269 #[.int .u32 x, .int .i64 (-n)] w fun e w' => e = .returned (.int .u32 (rotS x n)) ∧ w = w' := by
 have wn : IntKind.u64.wrap (-n) = 18446744073709551616 - n := by simp [IntKind.wrap, IntKind.bits, IntKind.signed]; omega
 have wb : bits .and .u64 (18446744073709551616 - n) 31 = 32 - n := by
  have := and31 ⟨n.toNat, Yo⟩ (by show 1 ≤ n.toNat; omega)
  simp only [Int.toNat_of_nonneg (show 0 ≤ n by omega)] at this
  exact this
 have wm2 : IntKind.u64.wrap (32 - n) = 32 - n := by simp [IntKind.wrap, IntKind.bits, IntKind.signed]; omega
 have wm3 : IntKind.u64.wrap (32 - (32 - n)) = n := by simp [IntKind.wrap, IntKind.bits, IntKind.signed]; omega
 have e3 : 32 - (32 - n) = n := by omega
 have wn3 : IntKind.u64.wrap n = n := by simp [IntKind.wrap, IntKind.bits, IntKind.signed]; omega
 have hc : rotS x n = bits .or .u32 (x * 2 ^ (32 - n).toNat % 4294967296) (x / 2 ^ n.toNat) := bits_or_comm _ _ _
 rw [hc]
 have HC := Yh hc; clear hc
 go_enter Tryz.func269, Tryz.ntmps269
 go_wp2
 go_ret
 exact ⟨rfl, rfl⟩
theorem rot_any (x n : Int) (h0 : 0 ≤ x) (h1 : x < 4294967296) (n0 : 1 ≤ n) (n1 : n ≤ 31) (w : World) : Calls Tryz.prog 263 #[.int .u32 x, .int .i64 n] w fun e w' => e = .returned (.int .u32 (rotS x n)) ∧ w = w' := by
 have wm : IntKind.i64.wrap (-n) = -n := IntWalk.i64_in _ Yo
 go_enter Tryz.func263, Tryz.ntmps263
 go_wp2_with fail
 refine (rotl_any x n h0 h1 n0 n1 _).mono ?_
 rintro e w' ⟨rfl, rfl⟩
 go_wp2
 go_ret
 exact ⟨rfl, rfl⟩
theorem turn_rb (x n : Int) (h0 : 0 ≤ x ∧ x < 4294967296) (n0 : 1 ≤ n ∧ n ≤ 31) (w : World) : Calls Tryz.prog 236 #[.int .u32 x, .int .i64 n] w (RB w (.int .u32 (rotS x n))) := (turn_any x n h0.1 h0.2 n0.1 n0.2 w).mono fun _ _ h => ⟨h.1, h.2 ▸ Below.refl _ _⟩
theorem rot_rb (x n : Int) (h0 : 0 ≤ x ∧ x < 4294967296) (n0 : 1 ≤ n ∧ n ≤ 31) (w : World) : Calls Tryz.prog 263 #[.int .u32 x, .int .i64 n] w (RB w (.int .u32 (rotS x n))) := (rot_any x n h0.1 h0.2 n0.1 n0.2 w).mono fun _ _ h => ⟨h.1, h.2 ▸ Below.refl _ _⟩
def WdAt (T : TypeId) (w : World) (g : Nat) (ws : List Int) : Prop := ∃ cur : Array Value, Blk w g T cur ∧ ∀ j, j < ws.length → cur[j]? = some (.int .u32 (ws.getD j 0))
def WdSl (w : World) (g off : Nat) (ws : List Int) : Prop := g < w.heap.size ∧ ∀ j, j < ws.length → w.cell? ⟨g, off + j, none⟩ = some (.int .u32 (ws.getD j 0))
theorem WdAt.below {T : TypeId} {w w' : World} {g : Nat} {ws : List Int} (h : WdAt T w g ws) (hb : Below w.heap.size w w') : WdAt T w' g ws := by
 obtain ⟨cur, hB, hc⟩ := h
 exact ⟨cur, Yk hb hB, hc⟩
theorem WdSl.below {w w' : World} {g off : Nat} {ws : List Int} (h : WdSl w g off ws) (hb : Below w.heap.size w w') : WdSl w' g off ws :=
 ⟨Nat.lt_of_lt_of_le h.1 hb.size, fun j hj => cell_below hb (h.2 j hj)⟩
theorem WdAt.sl {T : TypeId} {w : World} {g : Nat} {ws : List Int} (h : WdAt T w g ws) : WdSl w g 0 ws := by
 obtain ⟨cur, hB, hc⟩ := h
 refine ⟨hB.lt, fun j hj => ?_⟩
 rw [Nat.zero_add, hB.cell]; exact hc j hj
theorem WdAt.set {T : TypeId} {w : World} {g : Nat} {ws : List Int} (h : WdAt T w g ws) (p : Nat) (y : Int) (hp : p < ws.length) : WdAt T (w.setCell ⟨g, p, none⟩ (.int .u32 y)) g (ws.set p y) := by
 obtain ⟨cur, hB, hc⟩ := h
 refine ⟨_, hB.set_ p (.int .u32 y), fun j hj => ?_⟩
 rw [List.length_set] at hj
 have h1 := hc j hj
 have s1 : p < cur.size := (Array.getElem?_eq_some_iff.1 (hc p hp)).1
 rw [Y8, List.getElem?_set]
 by_cases e : p = j
 ·subst e
  rw [if_pos rfl, if_pos hp, Array.getElem?_setIfInBounds_self_of_lt s1]; rfl
 ·rw [if_neg e, ← Y8, Array.getElem?_setIfInBounds_ne e]; exact h1
theorem WdAt.cells {T : TypeId} {w : World} {g : Nat} {ws : List Int} (h : WdAt T w g ws) (j : Nat) (hj : j < ws.length) : g < w.heap.size ∧ w.cell? ⟨g, j, none⟩ = some (.int .u32 (ws.getD j 0)) ∧ (∀ i, w.frozen? ⟨g, i, none⟩ = false) := by
 obtain ⟨cur, hB, hc⟩ := h
 exact ⟨hB.lt, (hB.cell j).trans (hc j hj), hB.frozen⟩
theorem WdAt.new {T : TypeId} (w : World) (n : Nat) : WdAt T (w.alloc (.cells (Array.replicate n (.int .u32 0)) T)) w.heap.size (List.replicate n 0) :=
 ⟨_, Blk.new _ _ _, fun j hj => by simp at hj; simp [hj, Y8]⟩
def InW (ws : List Int) : Prop := ∀ x ∈ ws, 0 ≤ x ∧ x < 4294967296
theorem InW.get {ws : List Int} (h : InW ws) (j : Nat) : 0 ≤ ws.getD j 0 ∧ ws.getD j 0 < 4294967296 := by
 by_cases hj : j < ws.length
 ·exact h _ (by rw [Y8, Y9 hj]; exact List.getElem_mem _)
 ·rw [Y8, List.getElem?_eq_none Yo]; decide
theorem InW.set {ws : List Int} (h : InW ws) (p : Nat) {y : Int} (hy : 0 ≤ y ∧ y < 4294967296) : InW (ws.set p y) := fun x hx => by
 rcases List.mem_or_eq_of_mem_set hx with hx | rfl
 ·exact h x hx
 ·exact hy
def beW (bs : List Int) (t : Nat) : Int := bits .or .u32 (bits .or .u32 (bits .or .u32 (IntKind.u32.wrap (IntKind.u32.wrap (bs.getD (4 * t) 0) * 16777216)) (IntKind.u32.wrap (IntKind.u32.wrap (bs.getD (4 * t + 1) 0) * 65536))) (IntKind.u32.wrap (IntKind.u32.wrap (bs.getD (4 * t + 2) 0) * 256))) (IntKind.u32.wrap (bs.getD (4 * t + 3) 0))
def mS (bs : List Int) : Nat → List Int
 | 0 => List.replicate 64 0
 | n + 1 => (mS bs n).set n (beW bs n)
def sg0 (x : Int) : Int := bits .xor .u32 (bits .xor .u32 (rotS x 7) (rotS x 18)) (x / 8)
def sg1 (x : Int) : Int := bits .xor .u32 (bits .xor .u32 (rotS x 17) (rotS x 19)) (x / 1024)
def wV4 (y z x u : Int) : Int := IntKind.u32.wrap (IntKind.u32.wrap (IntKind.u32.wrap (sg1 y + z) + sg0 x) + u)
def wV (ws : List Int) (t : Nat) : Int := wV4 (ws.getD (t - 2) 0) (ws.getD (t - 7) 0) (ws.getD (t - 15) 0) (ws.getD (t - 16) 0)
theorem u32_in (z : Int) : 0 ≤ IntKind.u32.wrap z ∧ IntKind.u32.wrap z < 4294967296 := by
 simp [IntKind.wrap, IntKind.bits, IntKind.signed]; omega
def schS (bs : List Int) : Nat → List Int
 | 0 => mS bs 16
 | n + 1 => (schS bs n).set (16 + n) (wV (schS bs n) (16 + n))
theorem mS_ok (bs : List Int) : ∀ n, (mS bs n).length = 64 ∧ InW (mS bs n)
 | 0 => ⟨rfl, fun x hx => by rw [(List.mem_replicate.1 hx).2]; decide⟩
 | n + 1 => ⟨by rw [mS, List.length_set]; exact (mS_ok bs n).1, (mS_ok bs n).2.set n (bits_u32 _ _ _)⟩
theorem schS_ok (bs : List Int) : ∀ n, (schS bs n).length = 64 ∧ InW (schS bs n)
 | 0 => mS_ok bs 16
 | n + 1 => ⟨by rw [schS, List.length_set]; exact (schS_ok bs n).1, (schS_ok bs n).2.set _ (u32_in _)⟩
structure St8 where
 (a b c d e f g h : Int)
def t1S (k w : Int) (s : St8) : Int := IntKind.u32.wrap (IntKind.u32.wrap (IntKind.u32.wrap (IntKind.u32.wrap (s.h + bits .xor .u32 (bits .xor .u32 (rotS s.e 6) (rotS s.e 11)) (rotS s.e 25)) + bits .xor .u32 (bits .and .u32 s.e s.f) (bits .and .u32 (bits .xor .u32 IntKind.u32.max s.e) s.g)) + k) + w)
def t2S (s : St8) : Int := (bits .xor .u32 (bits .xor .u32 (rotS s.a 2) (rotS s.a 13)) (rotS s.a 22) + bits .xor .u32 (bits .xor .u32 (bits .and .u32 s.a s.b) (bits .and .u32 s.a s.c)) (bits .and .u32 s.b s.c)) % 4294967296
def stepW (k w : Int) (s : St8) : St8 := ⟨(t1S k w s + t2S s) % 4294967296, s.a, s.b, s.c, (s.d + t1S k w s) % 4294967296, s.e, s.f, s.g⟩
def rndS (ks ws : List Int) (s : St8) : Nat → St8
 | 0 => s
 | n + 1 => stepW (ks.getD n 0) (ws.getD n 0) (rndS ks ws s n)
def St8.ok (s : St8) : Prop := InW [s.a, s.b, s.c, s.d, s.e, s.f, s.g, s.h]
theorem InW.cons {x : Int} {l : List Int} : InW (x :: l) ↔ (0 ≤ x ∧ x < 4294967296) ∧ InW l := by simp [InW]
theorem stepW_ok {k w : Int} {s : St8} (h : s.ok) : (stepW k w s).ok := by
 unfold St8.ok at h ⊢
 simp only [InW.cons] at h ⊢
 obtain ⟨h1, h2, h3, h4, h5, h6, h7, h8, h9⟩ := h
 exact ⟨by show 0 ≤ _ % 4294967296 ∧ _ % 4294967296 < 4294967296; omega, h1, h2, h3, by show 0 ≤ _ % 4294967296 ∧ _ % 4294967296 < 4294967296; omega, h5, h6, h7, h9⟩
theorem rndS_ok {ks ws : List Int} {s : St8} (h : s.ok) : ∀ n, (rndS ks ws s n).ok
 | 0 => h
 | n + 1 => stepW_ok (rndS_ok h n)
def addS (s t : St8) : St8 := ⟨IntKind.u32.wrap (s.a + t.a), IntKind.u32.wrap (s.b + t.b), IntKind.u32.wrap (s.c + t.c), IntKind.u32.wrap (s.d + t.d), IntKind.u32.wrap (s.e + t.e), IntKind.u32.wrap (s.f + t.f), IntKind.u32.wrap (s.g + t.g), IntKind.u32.wrap (s.h + t.h)⟩
theorem addS_ok (s t : St8) : (addS s t).ok := by
 unfold St8.ok
 simp only [InW.cons]
 exact ⟨u32_in _, u32_in _, u32_in _, u32_in _, u32_in _, u32_in _, u32_in _, u32_in _, by simp [InW]⟩
def blkS (ks bs : List Int) (s : St8) : St8 := addS s (rndS ks (schS bs 48) s 64)
def St8.cells (s : St8) : Array Value := #[.int .u32 s.a, .int .u32 s.b, .int .u32 s.c, .int .u32 s.d, .int .u32 s.e, .int .u32 s.f, .int .u32 s.g, .int .u32 s.h]
def Wd8 (w : World) (g off : Nat) (s : St8) : Prop := g < w.heap.size ∧ w.cell? ⟨g, off, none⟩ = some (.int .u32 s.a) ∧ w.cell? ⟨g, off + 1, none⟩ = some (.int .u32 s.b) ∧ w.cell? ⟨g, off + 2, none⟩ = some (.int .u32 s.c) ∧ w.cell? ⟨g, off + 3, none⟩ = some (.int .u32 s.d) ∧ w.cell? ⟨g, off + 4, none⟩ = some (.int .u32 s.e) ∧ w.cell? ⟨g, off + 5, none⟩ = some (.int .u32 s.f) ∧ w.cell? ⟨g, off + 6, none⟩ = some (.int .u32 s.g) ∧ w.cell? ⟨g, off + 7, none⟩ = some (.int .u32 s.h)
theorem Wd8.below {w w' : World} {g off : Nat} {s : St8} (h : Wd8 w g off s) (hb : Below w.heap.size w w') : Wd8 w' g off s := by
 obtain ⟨h, a1, a2, a3, a4, a5, a6, a7, a8⟩ := h
 exact ⟨Nat.lt_of_lt_of_le h hb.size, cell_below hb a1, cell_below hb a2, cell_below hb a3, cell_below hb a4, cell_below hb a5, cell_below hb a6, cell_below hb a7, cell_below hb a8⟩
theorem Wd8.blk {w : World} {g : Nat} {T : TypeId} {s : St8} (h : Blk w g T s.cells) : Wd8 w g 0 s := by
 have hc := h.cell
 exact ⟨h.lt, hc 0, hc 1, hc 2, hc 3, hc 4, hc 5, hc 6, hc 7⟩
def RbRel (w : World) (g : Nat) (bs : List Int) (G : Nat) (i : Value) (wr : World) : Prop := ∃ q : Nat, q ≤ 16 ∧ G = 16 - q ∧ i = .int .i64 q ∧ WdAt 249 wr g (mS bs q) ∧ Below w.heap.size w wr
def RcRel (w : World) (g : Nat) (bs : List Int) (G : Nat) (i : Value) (wr : World) : Prop := ∃ q : Nat, q ≤ 48 ∧ G = 48 - q ∧ i = .int .i64 ((16 + q : Nat) : Int) ∧ WdAt 249 wr g (schS bs q) ∧ Below w.heap.size w wr
set_option maxHeartbeats 16000000
def kS : List Int := [1116352408, 1899447441, 3049323471, 3921009573, 961987163, 1508970993, 2453635748, 2870763221, 3624381080, 310598401, 607225278, 1426881987, 1925078388, 2162078206, 2614888103, 3248222580, 3835390401, 4022224774, 264347078, 604807628, 770255983, 1249150122, 1555081692, 1996064986, 2554220882, 2821834349, 2952996808, 3210313671, 3336571891, 3584528711, 113926993, 338241895, 666307205, 773529912, 1294757372, 1396182291, 1695183700, 1986661051, 2177026350, 2456956037, 2730485921, 2820302411, 3259730800, 3345764771, 3516065817, 3600352804, 4094571909, 275423344, 430227734, 506948616, 659060556, 883997877, 958139571, 1322822218, 1537002063, 1747873779, 1955562222, 2024104815, 2227730452, 2361852424, 2428436474, 2756734187, 3204031479, 3329325298]
def firstS : St8 := ⟨1779033703, 3144134277, 1013904242, 2773480762, 1359893119, 2600822924, 528734635, 1541459225⟩
theorem kS_len : kS.length = 64 := by decide +kernel
theorem kS_ok : InW kS := by unfold InW; decide +kernel
theorem firstS_ok : firstS.ok := by unfold St8.ok InW; decide +kernel
def kcells : Array Value := (kS.map (Value.int .u32 ·)).toArray
theorem kcells_get (j : Nat) (hj : j < kS.length) : kcells[j]? = some (.int .u32 (kS.getD j 0)) := by
 simp [kcells, Y8, Y9 hj]
theorem WdAt.k {T : TypeId} {w : World} {g : Nat} (h : Blk w g T kcells) : WdAt T w g kS := ⟨_, h, kcells_get⟩
theorem rconst_any (w : World) : Calls Tryz.prog 217 #[] w (fun e w' => ∃ g, e = .returned (.slice (some ⟨g, 0, none⟩) 64 64) ∧ w.heap.size ≤ g ∧ WdAt 211 w' g kS ∧ Below w.heap.size w w') := by
 go_enter Tryz.func217, Tryz.ntmps217
 go_wp2
 go_ret
 exact ⟨w.heap.size, rfl, Nat.le_refl _, WdAt.k (Blk.new _ _ _), bl0⟩
theorem hconst_any (w : World) : Calls Tryz.prog 250 #[] w (fun e w' => ∃ g, e = .returned (.pointer (some ⟨g, 0, none⟩)) ∧ w.heap.size ≤ g ∧ WdAt 249 w' g kS ∧ Below w.heap.size w w') := by
 go_enter Tryz.func250, Tryz.ntmps250
 go_wp2
 go_ret
 exact ⟨w.heap.size, rfl, Nat.le_refl _, WdAt.k (Blk.new _ _ _), bl0⟩
theorem rfirst_any (w : World) : Calls Tryz.prog 216 #[] w (fun e w' => ∃ g, e = .returned (.slice (some ⟨g, 0, none⟩) 8 8) ∧ w.heap.size ≤ g ∧ Blk w' g 211 firstS.cells ∧ Below w.heap.size w w') := by
 go_enter Tryz.func216, Tryz.ntmps216
 go_wp2
 go_ret
 exact ⟨w.heap.size, rfl, Nat.le_refl _, Blk.new _ _ _, bl0⟩
theorem hfirst_any (w : World) : Calls Tryz.prog 240 #[] w (fun e w' => e = .returned (.agg firstS.cells) ∧ Below w.heap.size w w') := by
 go_enter Tryz.func240, Tryz.ntmps240
 go_wp2
 exact Yb (v := .agg firstS.cells) (by simp [results, Tryz.results240, go_sem, firstS, St8.cells]) rfl ⟨rfl, bl0⟩
end Go.Proofs.YtiinmhfolfgobaaGreatDoor
