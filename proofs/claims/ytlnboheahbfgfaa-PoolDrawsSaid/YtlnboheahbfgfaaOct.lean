/- Bytes: Put and Get in both worlds. -/
import Derived.Test.YtlnboheahbfgfaaCk
import Derived.Test.YtlnboheahbfgfaaKitG
import Derived.Deep.LoopGhost
import Derived.OwnWalk
import Derived.Deep.AppendLies
namespace Go.Proofs.Ytlnboheahbfgfaa
open Go.RowKit
set_option linter.unusedSimpArgs false
set_option linter.unusedVariables false

/-- Bytes in a block of one's own; bytes at a place. -/
def ByAt (w : World) (g : Nat) (bs : List Int) : Prop := ∃ cur : Array Value, Blk w g 5 cur ∧ ∀ j, j < bs.length → cur[j]? = some (.int .u8 (bs.getD j 0))
def BySl (w : World) (g off : Nat) (bs : List Int) : Prop := g < w.heap.size ∧ ∀ j, j < bs.length → w.cell? ⟨g, off + j, none⟩ = some (.int .u8 (bs.getD j 0))
theorem ByAt.below {w w' : World} {g : Nat} {bs : List Int} (h : ByAt w g bs) (hb : Below w.heap.size w w') : ByAt w' g bs := by
  obtain ⟨cur, hB, hc⟩ := h
  exact ⟨cur, Blk.keep hb hB, hc⟩
theorem BySl.below {w w' : World} {g off : Nat} {bs : List Int} (h : BySl w g off bs) (hb : Below w.heap.size w w') : BySl w' g off bs :=
  ⟨Nat.lt_of_lt_of_le h.1 hb.size, fun j hj => cell_below hb (h.2 j hj)⟩
theorem ByAt.sl {w : World} {g : Nat} {bs : List Int} (h : ByAt w g bs) : BySl w g 0 bs := by
  obtain ⟨cur, hB, hc⟩ := h
  refine ⟨hB.lt, fun j hj => ?_⟩
  rw [Nat.zero_add, hB.cell]; exact hc j hj
theorem ByAt.set {w : World} {g : Nat} {bs : List Int} (h : ByAt w g bs) (p : Nat) (y : Int) (hp : p < bs.length) : ByAt (w.setCell ⟨g, p, none⟩ (.int .u8 y)) g (bs.set p y) := by
  obtain ⟨cur, hB, hc⟩ := h
  refine ⟨_, hB.set_ p (.int .u8 y), fun j hj => ?_⟩
  rw [List.length_set] at hj
  have h1 := hc j hj
  have s1 : p < cur.size := (Array.getElem?_eq_some_iff.1 (hc p hp)).1
  rw [List.getD_eq_getElem?_getD, List.getElem?_set]
  by_cases e : p = j
  · subst e
    rw [if_pos rfl, if_pos hp, Array.getElem?_setIfInBounds_self_of_lt s1]; rfl
  · rw [if_neg e, ← List.getD_eq_getElem?_getD, Array.getElem?_setIfInBounds_ne e]; exact h1
theorem ByAt.cells {w : World} {g : Nat} {bs : List Int} (h : ByAt w g bs) (j : Nat) (hj : j < bs.length) : g < w.heap.size ∧ w.cell? ⟨g, j, none⟩ = some (.int .u8 (bs.getD j 0)) ∧ (∀ i, w.frozen? ⟨g, i, none⟩ = false) := by
  obtain ⟨cur, hB, hc⟩ := h
  exact ⟨hB.lt, (hB.cell j).trans (hc j hj), hB.frozen⟩
theorem infoU8 : (Try.prog.info? 5).map (fun i => (i.zero, i.size, i.bytes)) = some (some (.int .u8 0), 1, 1) := by kernel_rfl
def bcells (bs : List Int) : List Value := bs.map (.int .u8 ·)
theorem bcells_length (bs : List Int) : (bcells bs).length = bs.length := by simp [bcells]
theorem bcells_app (a b : List Int) : bcells (a ++ b) = bcells a ++ bcells b := by simp [bcells]
theorem bcells_get (bs : List Int) (j : Nat) (hj : j < bs.length) : (bcells bs)[j]? = some (.int .u8 (bs.getD j 0)) := by
  simp [bcells, List.getD_eq_getElem?_getD, List.getElem?_eq_getElem hj]
theorem own_bytes {w : World} {base n cap : Nat} {A : Option Addr} {bs : List Int} (h : w.ownsRow base 5 1 (.slice A n cap) n (bcells bs)) (hn : bs.length = n) (h0 : 0 < n) : ∃ g, A = some ⟨g, 0, none⟩ ∧ base ≤ g ∧ g < w.heap.size ∧ ByAt w g bs := by
  rcases h.2 with ⟨_, hz⟩ | ⟨g, c, cur, hv, hb, hg, _, _, _, ht⟩
  · omega
  · injection hv with hv _ _
    refine ⟨g, hv, hb, (Array.getElem?_eq_some_iff.1 hg).1, cur, hg, fun j hj => ?_⟩
    rw [← bcells_get bs j hj, ← ht, List.getElem?_take, if_pos (by omega), Array.getElem?_toList]
/-- The last n bytes of a number. -/
def putB (v : Int) (n : Nat) : List Int := (List.range n).map fun i => v / 256 ^ (n - 1 - i) % 256
theorem putB_length (v : Int) (n : Nat) : (putB v n).length = n := by simp [putB]
/-- What is there when the bytes from place q on are done. -/
def putQ (v : Int) (n q : Nat) : List Int := (List.range n).map fun i => if i < q then 0 else v / 256 ^ (n - 1 - i) % 256
theorem putQ_length (v : Int) (n q : Nat) : (putQ v n q).length = n := by simp [putQ]
theorem putQ_zero (v : Int) (n : Nat) : putQ v n 0 = putB v n := by simp [putQ, putB]
theorem putQ_all (v : Int) (n : Nat) : putQ v n n = List.replicate n 0 := by
  refine List.ext_getElem (by simp [putQ]) (fun i h1 h2 => ?_)
  simp [putQ] at h1 ⊢
  intro h; omega
theorem putQ_step (v : Int) (n q : Nat) (hq : q < n) : (putQ v n (q + 1)).set q (v / 256 ^ (n - 1 - q) % 256) = putQ v n q := by
  refine List.ext_getElem (by simp [putQ]) (fun i h1 h2 => ?_)
  rw [List.getElem_set]
  simp only [putQ, List.getElem_map, List.getElem_range]
  by_cases e : q = i
  · subst e; simp
  · rw [if_neg e]
    by_cases c : i < q
    · rw [if_pos (by omega), if_pos c]
    · rw [if_neg (by omega), if_neg c]
theorem putQ_done (v : Int) (n q : Nat) (h : v / 256 ^ (n - q) = 0) (hv : 0 ≤ v) : putQ v n q = putB v n := by
  refine List.ext_getElem (by simp [putQ, putB]) (fun i h1 h2 => ?_)
  simp only [putQ, putB, List.getElem_map, List.getElem_range]
  by_cases c : i < q
  · rw [if_pos c]
    have hi : i < n := by simpa [putQ] using h1
    have e : v / 256 ^ (n - 1 - i) = 0 := by
      have hp : (0 : Int) < 256 ^ (n - q) := Int.pow_pos (by decide)
      have h3 : v < 256 ^ (n - q) := by
        have := Int.lt_ediv_add_one_mul_self v hp
        rw [h] at this; omega
      have h4 : (256 : Int) ^ (n - q) ≤ 256 ^ (n - 1 - i) := by
        have h5 : (256 : Nat) ^ (n - q) ≤ 256 ^ (n - 1 - i) := Nat.pow_le_pow_right (by decide) (by omega)
        rw [show (256 : Int) = ((256 : Nat) : Int) from rfl, ← Int.natCast_pow, ← Int.natCast_pow]
        exact Int.ofNat_le.2 h5
      exact Int.ediv_eq_zero_of_lt hv (by omega)
    rw [e]; rfl
  · rw [if_neg c]
def PutRel (w : World) (g : Nat) (v : Int) (n : Nat) (x i : Value) (G : Nat) (wr : World) : Prop := ∃ q : Nat, q ≤ n ∧ G = 0 + q ∧ i = .int .i64 ((q : Int) - 1) ∧ x = .int .u64 (v / 256 ^ (n - q)) ∧ ByAt wr g (putQ v n q) ∧ Below w.heap.size w wr
def PutBR (w : World) (v : Int) (n : Nat) (e : Ending) (w' : World) : Prop := ∃ g, e = .returned (.slice (some ⟨g, 0, none⟩) n n) ∧ w.heap.size ≤ g ∧ g < w'.heap.size ∧ ByAt w' g (putB v n) ∧ Below w.heap.size w w'
theorem zeros_bytes (n : Nat) : (madeCells #[(.int .u8 0 : Value)] n).toList = bcells (List.replicate n 0) := by
  refine List.ext_getElem (by simp [madeCells, bcells]) (fun i h1 h2 => ?_)
  simp [madeCells, bcells, Nat.mod_one]
set_option maxRecDepth 100000 in
set_option maxHeartbeats 2000000 in
theorem oput_any (v : Int) (n : Nat) (v0 : 0 ≤ v) (v1 : v < 18446744073709551616) (n0 : 1 ≤ n) (n1 : n ≤ 64) (w : World) :
    Calls Try.prog 15 #[.int .u64 v, .int .i64 n] w (PutBR w v n) := by
  have gn0 : decide ((n : Int) < 0) = false := decide_eq_false (by omega)
  have gn1 : decide (64 < (n : Int)) = false := decide_eq_false (by omega)
  have gn1n : decide (64 < n) = false := decide_eq_false (by omega)
  have wn : IntKind.i64.wrap ((n : Int) - 1) = (n : Int) - 1 := IntWalk.i64_in _ (by omega)
  obtain ⟨i0, hif, hz0, hz1, hz2⟩ := info_parts infoU8
  go_enter Try.func15, Try.ntmps15
  go_wp2_with (at_make; refine wpList_make_full _ rfl _ _ 22 rfl w.heap.size 5 i0 (.int .u8 0) 1 Try.underlying22 hif hz0 hz1 .i64 .i64 _ _ n rfl rfl (by first | rfl | omega) (by first | rfl | omega) (by rw [hz2]; omega) (by unfold maxLen; omega) (Nat.le_refl _) ?_)
  intro w1 hown hgrow
  have K1 : Below w.heap.size w w1 := (Below.refl _ _).grown hgrow (Nat.le_refl _) (fun k hk => by cases hk)
  have hrow := hown
  rw [show (madeCells _ _).toList = bcells (List.replicate n 0) from by first | exact zeros_bytes n | (rw [Nat.mul_one]; exact zeros_bytes n)] at hrow
  obtain ⟨g, e, hg1, hg2, hby⟩ := own_bytes hrow (by simp) (by omega)
  obtain rfl : g = w.heap.size := by injection e with e; injection e with e; first | exact e.symm | exact e
  rw [← putQ_all v n] at hby
  have HBY := Lib.hid hby; have HK1 := Lib.hid K1; have Z1 := K1.size
  clear hown hgrow hrow e hby K1
  have HV0 := Lib.hid (show v = v / 256 ^ (n - n) by rw [Nat.sub_self]; simp)
  go_wp2
  go_loopg [0, 6] n (fun G x i wr => PutRel w w.heap.size v n x i G wr)
  case atStart => exact ⟨n, by omega, by omega, rfl, by rw [← HV0.out], HBY.out, HK1.out⟩
  case round =>
    obtain ⟨q, hq, rfl, rfl, rfl, hby, KR⟩ := hrel
    have ZR := KR.size
    clear HV0
    have HBq := Lib.hid hby; have HKR := Lib.hid KR; clear hby KR HBY HK1
    obtain ⟨x, hx⟩ : ∃ x, v / 256 ^ (n - q) = x := ⟨_, rfl⟩
    have x0 : 0 ≤ x := by rw [← hx]; exact Int.ediv_nonneg v0 (Int.le_of_lt (Int.pow_pos (by decide)))
    have x1 : x ≤ v := by rw [← hx]; exact Int.ediv_le_self _ v0
    rw [hx]
    have HX := Lib.hid hx; clear hx
    by_cases hlt : 0 < q
    · obtain ⟨p, rfl⟩ : ∃ p, q = p + 1 := ⟨q - 1, by omega⟩
      have ep : (((p + 1 : Nat) : Int) - 1) = (p : Int) := by omega
      rw [ep]
      clear ep
      have gp : decide (0 ≤ (p : Int)) = true := decide_eq_true (by omega)
      have gpn : decide (0 ≤ p) = true := decide_eq_true (by omega)
      have hpn : p < n := by omega
      have gq : decide ((p : Int) < (n : Int)) = true := decide_eq_true (by omega)
      have wp : IntKind.i64.wrap ((p : Int) - 1) = (p : Int) - 1 := IntWalk.i64_in _ (by omega)
      have w8 : IntKind.u8.wrap x = x % 256 := by simp [IntKind.wrap, IntKind.bits, IntKind.signed]
      have hdiv : v / 256 ^ (n - p) = x / 256 := by
        rw [← HX.out, Int.ediv_ediv_of_nonneg (Int.le_of_lt (Int.pow_pos (by decide))), show n - p = (n - (p + 1)) + 1 by omega, Int.pow_succ]
      have hstep : (putQ v n (p + 1)).set p (x % 256) = putQ v n p := by
        have := putQ_step v n p hpn
        rw [show n - 1 - p = n - (p + 1) by omega, HX.out] at this; exact this
      obtain ⟨hl, hc, hf⟩ := HBq.out.cells p (by rw [putQ_length]; omega)
      have hset := HBq.out.set p (x % 256) (by rw [putQ_length]; omega)
      rw [hstep] at hset
      have HS := Lib.hid hset; have HD := Lib.hid hdiv; clear hset hdiv hstep
      by_cases hx0 : 0 < x
      · have gx : decide (0 < x) = true := decide_eq_true hx0
        go_wp2
        go_roundg p
        case measure => omega
        case rel => exact ⟨p, by omega, by omega, rfl, by rw [HD.out], HS.out, (HKR.out.setCell (by simp) _)⟩
      · have gx : decide (0 < x) = false := decide_eq_false hx0
        obtain rfl : x = 0 := by omega
        have hfin : putQ v n (p + 1) = putB v n := putQ_done v n (p + 1) HX.out v0
        have hb := HBq.out
        rw [hfin] at hb
        have HB := Lib.hid hb; clear hb hfin
        go_wp2
        go_ret
        exact ⟨w.heap.size, rfl, Nat.le_refl _, hl, HB.out, HKR.out⟩
    · obtain rfl : q = 0 := by omega
      have gp : decide (0 ≤ (((0 : Nat) : Int) - 1)) = false := by decide
      have gp2 : decide (0 ≤ (0 : Int) - 1) = false := by decide
      have gp3 : decide ((0 : Int) ≤ -1) = false := by decide
      have hb := HBq.out
      rw [putQ_zero] at hb
      have hl := (hb.cells 0 (by rw [putB_length]; omega)).1
      have HB := Lib.hid hb; clear hb
      go_wp2
      go_ret
      exact ⟨w.heap.size, rfl, Nat.le_refl _, hl, HB.out, HKR.out⟩
set_option maxRecDepth 100000 in
set_option maxHeartbeats 2000000 in
theorem rput_any (v : Int) (n : Nat) (v0 : 0 ≤ v) (v1 : v < 18446744073709551616) (n0 : 1 ≤ n) (n1 : n ≤ 64) (w : World) :
    Calls Try.prog 19 #[.int .u64 v, .int .i64 n] w (PutBR w v n) := by
  have gn0 : decide ((n : Int) < 0) = false := decide_eq_false (by omega)
  have gn1 : decide (64 < (n : Int)) = false := decide_eq_false (by omega)
  have gn1n : decide (64 < n) = false := decide_eq_false (by omega)
  have wn : IntKind.i64.wrap ((n : Int) - 1) = (n : Int) - 1 := IntWalk.i64_in _ (by omega)
  obtain ⟨i0, hif, hz0, hz1, hz2⟩ := info_parts infoU8
  go_enter Try.func19, Try.ntmps19
  go_wp2_with (at_make; refine wpList_make_full _ rfl _ _ 22 rfl w.heap.size 5 i0 (.int .u8 0) 1 Try.underlying22 hif hz0 hz1 .i64 .i64 _ _ n rfl rfl (by first | rfl | omega) (by first | rfl | omega) (by rw [hz2]; omega) (by unfold maxLen; omega) (Nat.le_refl _) ?_)
  intro w1 hown hgrow
  have K1 : Below w.heap.size w w1 := (Below.refl _ _).grown hgrow (Nat.le_refl _) (fun k hk => by cases hk)
  have hrow := hown
  rw [show (madeCells _ _).toList = bcells (List.replicate n 0) from by first | exact zeros_bytes n | (rw [Nat.mul_one]; exact zeros_bytes n)] at hrow
  obtain ⟨g, e, hg1, hg2, hby⟩ := own_bytes hrow (by simp) (by omega)
  obtain rfl : g = w.heap.size := by injection e with e; injection e with e; first | exact e.symm | exact e
  rw [← putQ_all v n] at hby
  have HBY := Lib.hid hby; have HK1 := Lib.hid K1; have Z1 := K1.size
  clear hown hgrow hrow e hby K1
  have HV0 := Lib.hid (show v = v / 256 ^ (n - n) by rw [Nat.sub_self]; simp)
  go_wp2
  go_loopg [0, 6] n (fun G x i wr => PutRel w w.heap.size v n x i G wr)
  case atStart => exact ⟨n, by omega, by omega, rfl, by rw [← HV0.out], HBY.out, HK1.out⟩
  case round =>
    obtain ⟨q, hq, rfl, rfl, rfl, hby, KR⟩ := hrel
    have ZR := KR.size
    clear HV0
    have HBq := Lib.hid hby; have HKR := Lib.hid KR; clear hby KR HBY HK1
    obtain ⟨x, hx⟩ : ∃ x, v / 256 ^ (n - q) = x := ⟨_, rfl⟩
    have x0 : 0 ≤ x := by rw [← hx]; exact Int.ediv_nonneg v0 (Int.le_of_lt (Int.pow_pos (by decide)))
    have x1 : x ≤ v := by rw [← hx]; exact Int.ediv_le_self _ v0
    rw [hx]
    have HX := Lib.hid hx; clear hx
    by_cases hlt : 0 < q
    · obtain ⟨p, rfl⟩ : ∃ p, q = p + 1 := ⟨q - 1, by omega⟩
      have ep : (((p + 1 : Nat) : Int) - 1) = (p : Int) := by omega
      rw [ep]
      clear ep
      have gp : decide (0 ≤ (p : Int)) = true := decide_eq_true (by omega)
      have gpn : decide (0 ≤ p) = true := decide_eq_true (by omega)
      have hpn : p < n := by omega
      have gq : decide ((p : Int) < (n : Int)) = true := decide_eq_true (by omega)
      have wp : IntKind.i64.wrap ((p : Int) - 1) = (p : Int) - 1 := IntWalk.i64_in _ (by omega)
      have w8 : IntKind.u8.wrap x = x % 256 := by simp [IntKind.wrap, IntKind.bits, IntKind.signed]
      have hdiv : v / 256 ^ (n - p) = x / 256 := by
        rw [← HX.out, Int.ediv_ediv_of_nonneg (Int.le_of_lt (Int.pow_pos (by decide))), show n - p = (n - (p + 1)) + 1 by omega, Int.pow_succ]
      have hstep : (putQ v n (p + 1)).set p (x % 256) = putQ v n p := by
        have := putQ_step v n p hpn
        rw [show n - 1 - p = n - (p + 1) by omega, HX.out] at this; exact this
      obtain ⟨hl, hc, hf⟩ := HBq.out.cells p (by rw [putQ_length]; omega)
      have hset := HBq.out.set p (x % 256) (by rw [putQ_length]; omega)
      rw [hstep] at hset
      have HS := Lib.hid hset; have HD := Lib.hid hdiv; clear hset hdiv hstep
      go_wp2
      go_roundg p
      case measure => omega
      case rel => exact ⟨p, by omega, by omega, rfl, by rw [HD.out], HS.out, (HKR.out.setCell (by simp) _)⟩
    · obtain rfl : q = 0 := by omega
      have gp : decide (0 ≤ (((0 : Nat) : Int) - 1)) = false := by decide
      have gp2 : decide (0 ≤ (0 : Int) - 1) = false := by decide
      have gp3 : decide ((0 : Int) ≤ -1) = false := by decide
      have hb := HBq.out
      rw [putQ_zero] at hb
      have hl := (hb.cells 0 (by rw [putB_length]; omega)).1
      have HB := Lib.hid hb; clear hb
      go_wp2
      go_ret
      exact ⟨w.heap.size, rfl, Nat.le_refl _, hl, HB.out, HKR.out⟩
end Go.Proofs.Ytlnboheahbfgfaa
