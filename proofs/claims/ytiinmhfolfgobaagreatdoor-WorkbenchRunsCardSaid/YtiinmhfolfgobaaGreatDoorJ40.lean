/- Lemmas. -/
import Derived.Laws.IdiomStrings
import Derived.ArgAppend
import Derived.Lib.SmallJoins
import Derived.Deep.AppendLies
import Derived.OwnWalk
import Derived.Test.YtiinmhfolfgobaaGreatDoorJ5
import Derived.Test.YtiinmhfolfgobaaGreatDoorJ39
import Derived.Test.YtiinmhfolfgobaaGreatDoorJ33
import Derived.Test.YtiinmhfolfgobaaGreatDoorJ20
import Derived.Test.YtiinmhfolfgobaaGreatDoorJ7
import Derived.Test.YtiinmhfolfgobaaGreatDoorJ11
import Derived.Test.YtiinmhfolfgobaaGreatDoorJ9
import Derived.Test.YtiinmhfolfgobaaGreatDoorJ24
import Derived.Test.YtiinmhfolfgobaaGreatDoorSeqS
set_option linter.unusedVariables false
set_option linter.unusedSimpArgs false
namespace Go.Proofs.YtiinmhfolfgobaaGreatDoor
open Go.RowKit Go.Lib
def pMagic : List Int := [115, 101, 99, 116, 105, 109, 101, 49]
def bodyQ (vs : List Int) : Nat → List Int
 | 0 => pMagic
 | q + 1 => bodyQ vs q ++ putB (IntKind.u64.wrap (vs.getD q 0)) 8
def savVs (n0 : Int) (k : K6) : List Int := [n0, k.at_, k.lo, k.hi, k.pp, k.le, k.re]
def fileB (vs : List Int) : List Int := bodyQ vs 7 ++ (sha64 (bodyQ vs 7)).take 16
theorem bodyQ_len (vs : List Int) : ∀ q, (bodyQ vs q).length = 8 + 8 * q
 | 0 => rfl
 | q + 1 => by rw [bodyQ, lla, bodyQ_len vs q, putB_length]; omega
theorem bodyQ_in (vs : List Int) : ∀ q, InB (bodyQ vs q)
 | 0 => by unfold bodyQ pMagic InB; decide
 | q + 1 => (bodyQ_in vs q).app (putB_in _ _)
theorem sha64_len (bs : List Int) : (sha64 bs).length = 32 := outQ_len _ 8
theorem sha64_in (bs : List Int) : InB (sha64 bs) := outQ_in _ 8
theorem fileB_len (vs : List Int) : (fileB vs).length = 80 := by
 unfold fileB; rw [lla, bodyQ_len, List.length_take, sha64_len]; rfl
theorem fileB_in (vs : List Int) : InB (fileB vs) := (bodyQ_in vs 7).app (fun x hx => sha64_in _ x (List.mem_of_mem_take hx))
theorem fileB_body (vs : List Int) : (fileB vs).take 64 = bodyQ vs 7 := by
 unfold fileB; rw [List.take_append_of_le_length (by rw [bodyQ_len]; decide), List.take_of_length_le (by rw [bodyQ_len]; decide)]
theorem fileB_hash (vs : List Int) : (fileB vs).drop 64 = (sha64 (bodyQ vs 7)).take 16 := by
 unfold fileB; rw [List.drop_append, List.drop_eq_nil_of_le (by rw [bodyQ_len]; decide), bodyQ_len]; rfl
theorem bodyQ_prefix (vs : List Int) (n : Nat) : ∀ m, (bodyQ vs (n + m)).take (8 + 8 * n) = bodyQ vs n
 | 0 => List.take_of_length_le (by rw [Nat.add_zero, bodyQ_len]; exact Nat.le_refl _)
 | m + 1 => by
  rw [← Nat.add_assoc, bodyQ, List.take_append_of_le_length (by rw [bodyQ_len]; omega)]
  exact bodyQ_prefix vs n m
theorem bodyQ_num (vs : List Int) (i : Nat) (h : i < 7) : ((bodyQ vs 7).drop (8 + 8 * i)).take 8 = putB (IntKind.u64.wrap (vs.getD i 0)) 8 := by
 obtain ⟨m, hm⟩ : ∃ m, i + 1 + m = 7 := ⟨6 - i, Yo⟩
 have h1 := bodyQ_prefix vs (i + 1) m
 rw [hm] at h1
 have h2 : ((bodyQ vs 7).drop (8 + 8 * i)).take 8 = ((bodyQ vs 7).take (8 + 8 * (i + 1))).drop (8 + 8 * i) := by
  rw [List.drop_take]; congr 1; omega
 rw [h2, h1, bodyQ, List.drop_append, List.drop_eq_nil_of_le (by rw [bodyQ_len]; exact Nat.le_refl _), bodyQ_len, Nat.sub_self]; rfl
theorem fileB_num (vs : List Int) (i : Nat) (h : i < 7) : ((fileB vs).drop (8 + 8 * i)).take 8 = putB (IntKind.u64.wrap (vs.getD i 0)) 8 := by
 rw [← bodyQ_num vs i h, ← fileB_body vs, List.drop_take, List.take_take]; congr 1; omega
theorem fileB_magic (vs : List Int) : (fileB vs).take 8 = pMagic := by
 have h := bodyQ_prefix vs 0 7
 rw [← fileB_body vs, List.take_take] at h
 exact h
theorem u64_in (z : Int) : 0 ≤ IntKind.u64.wrap z ∧ IntKind.u64.wrap z < 18446744073709551616 := by
 simp [IntKind.wrap, IntKind.bits, IntKind.signed]; omega
theorem back_64 {v : Int} (h0 : -9223372036854775808 ≤ v) (h1 : v < 9223372036854775808) : IntKind.i64.wrap (IntKind.u64.wrap v) = v := by
 simp [IntKind.wrap, IntKind.bits, IntKind.signed]; omega
theorem u64_id {z : Int} (h0 : 0 ≤ z) (h1 : z < 18446744073709551616) : IntKind.u64.wrap z = z := by
 simp [IntKind.wrap, IntKind.bits, IntKind.signed]; omega
theorem nat_join (a b : Nat) : ((a * 256 + b : Nat) : Int) = (a : Int) * 256 + (b : Int) := by omega
theorem or_nat (a b : Nat) (hb : b < 256) (h : a * 256 + b < 18446744073709551616) : bits .or .u64 ((a : Int) * 256) (b : Int) = (a : Int) * 256 + (b : Int) := by
 have e := or_join a 8 b hb h
 rw [show a * 2 ^ 8 = a * 256 from rfl, nat_join] at e
 exact e
theorem or_byte (m : Int) (h0 : 0 ≤ m) (h1 : m < 18446744073709551616) : bits .or .u64 (IntKind.u64.wrap (m / 256 * 256)) (m % 256) = m := by
 rw [u64_id Yo Yo]
 have e := or_nat (m / 256).toNat (m % 256).toNat Yo Yo
 rw [Int.toNat_of_nonneg Yo, Int.toNat_of_nonneg Yo] at e
 rw [e]
 exact Int.ediv_mul_add_emod m 256
theorem gtS_put (v : Int) (h0 : 0 ≤ v) (h1 : v < 18446744073709551616) : ∀ q, q ≤ 8 → gtS (putB v 8) q = v / 256 ^ (8 - q)
 | 0, _ => by
  have e : (256 : Int) ^ (8 - 0) = 18446744073709551616 := by decide
  rw [e]; show (0 : Int) = _; omega
 | q + 1, hq => by
  have ih := gtS_put v h0 h1 q Yo
  have hg : (putB v 8).getD q 0 = v / 256 ^ (7 - q) % 256 := by
   unfold putB
   rw [Y8, List.getElem?_map, List.getElem?_range Yo]; rfl
  have e : (256 : Int) ^ (8 - q) = 256 ^ (7 - q) * 256 := by rw [show 8 - q = (7 - q) + 1 by omega, Int.pow_succ]
  obtain ⟨d, hd⟩ : ∃ d : Int, 256 ^ (7 - q) = d := ⟨_, rfl⟩
  have hd0 : 0 < d := by rw [← hd]; exact Int.pow_pos Yd
  have hdd : v / (d * 256) = v / d / 256 := by rw [Int.ediv_ediv_of_nonneg Yo]
  have m0 : 0 ≤ v / d := Int.ediv_nonneg h0 Yo
  have m1 : v / d ≤ v := Int.ediv_le_self _ h0
  rw [gtS, ih, hg, e, hd, hdd, or_byte _ m0 Yo, show 8 - (q + 1) = 7 - q by omega, hd]
theorem gtS_num (v : Int) (h0 : -9223372036854775808 ≤ v) (h1 : v < 9223372036854775808) : IntKind.i64.wrap (gtS (putB (IntKind.u64.wrap v) 8) 8) = v := by
 rw [gtS_put _ (u64_in v).1 (u64_in v).2 8 (Nat.le_refl _)]
 simp only [Nat.sub_self, Int.pow_zero, Int.ediv_one]
 exact back_64 h0 h1
theorem bytes_str (w : World) (g off cap n : Nat) (bs : List Int) (hl : bs.length = n) (hb : InB bs) (h : BySl w g off bs) :
  (convert 72 9 (.slice (some ⟨g, off, none⟩) n cap)).run Tryz.prog w = .ok (.string ⟨(bs.map fun x => UInt8.ofNat x.toNat).toArray⟩) w := by
 have e := run_convert_bytes_back (P := Tryz.prog) w 72 9 5 ⟨g, off, none⟩ cap (bs.map fun x => UInt8.ofNat x.toNat) Yr Yr Yr (fun j hj => by
  have hj' : j < bs.length := by simpa using hj
  have hx := hb (bs.getD j 0) (by rw [Y8, Y9 hj']; exact List.getElem_mem _)
  have hc := h.2 j hj'
  rw [show (⟨g, off, none⟩ : Addr).add j = ⟨g, off + j, none⟩ from by simp [Addr.add]]
  rw [hc, List.getElem_map]
  have hg : bs.getD j 0 = bs[j] := by rw [Y8, Y9 hj']; rfl
  rw [hg] at hx ⊢
  congr 2
  simp only [UInt8.toNat_ofNat']
  omega)
 rw [List.length_map, hl] at e
 exact e
theorem magic_str : (pMagic.map fun x => UInt8.ofNat x.toNat) = [115, 101, 99, 116, 105, 109, 101, 49] := by decide
theorem kE_ints {a lo hi p le re : Int} (h : kE a lo hi p le re = 0) : vS lo hi = true ∧ vT a = true ∧ 0 ≤ p ∧ p ≤ 1000000 ∧ (0 ≤ le ∧ le ≤ 1152921504606846976) ∧ (0 ≤ re ∧ re ≤ 1152921504606846976) := by
 unfold kE at h
 split at h
 ·omega
 ·rename_i hv
  split at h
  ·rename_i h2
   obtain ⟨a1, a2, a3, a4, a5⟩ := h2
   simp only [ctB, decide_eq_true_eq] at a4 a5
   exact ⟨by simpa using hv, a1, a2, a3, a4, a5⟩
  ·omega
theorem sav_ints {n0 : Int} {k : K6} (h : kE k.at_ k.lo k.hi k.pp k.le k.re = 0) (hn : vT n0 = true) : ∀ v ∈ savVs n0 k, -9223372036854775808 ≤ v ∧ v < 9223372036854775808 := by
 obtain ⟨h1, h2, h3, h4, h5, h6⟩ := kE_ints h
 have v1 := vS_true.1 h1; have v2 := vT_true.1 h2; have v3 := vT_true.1 hn
 intro v hv
 simp only [savVs, List.mem_cons, List.mem_nil_iff, or_false] at hv
 rcases hv with rfl | rfl | rfl | rfl | rfl | rfl | rfl <;> exact ⟨Yo, Yo⟩
def pE (n0 : Int) (k : K6) : Int := if kE k.at_ k.lo k.hi k.pp k.le k.re = 0 then (if 0 ≤ n0 then 0 else 4) else kE k.at_ k.lo k.hi k.pp k.le k.re
theorem pE_0 {n0 : Int} {k : K6} (h : pE n0 k = 0) : kE k.at_ k.lo k.hi k.pp k.le k.re = 0 ∧ 0 ≤ n0 := by
 unfold pE at h
 split at h
 ·rename_i h1
  split at h
  ·rename_i h2; exact ⟨h1, h2⟩
  ·omega
 ·rename_i h1; exact absurd h h1
set_option maxHeartbeats 16000000
theorem pcheck_any (n0 : Int) (k : K6) (hn : vT n0 = true) (w : World) :
  Calls Tryz.prog 201 #[.agg #[.int .i64 n0, .int .i64 k.at_, .int .i64 k.lo, .int .i64 k.hi, .int .i64 k.pp, .int .i64 k.le, .int .i64 k.re]] w (RB w (.int .i64 (pE n0 k))) := by
 have hb := vT_true.1 hn
 clear hn
 unfold pE
 obtain ⟨a, lo, hi, pp, le, re⟩ := k
 dsimp only
 have r := ikcheck_any a lo hi pp le re
 obtain ⟨e9, he9⟩ : ∃ e, kE a lo hi pp le re = e := ⟨_, rfl⟩
 rw [he9] at r ⊢
 have R := Yh r; clear r he9
 have g3 : decide (1152921504606846976 < n0) = false := Y3
 have g4 : decide (n0 > 1152921504606846976) = false := Y3
 by_cases h0 : e9 = 0
 ·subst h0
  rw [if_pos rfl]
  by_cases h1 : 0 ≤ n0
  ·have g1 : decide (n0 < 0) = false := Y3
   rw [if_pos h1]
   go_enter Tryz.func201, Tryz.ntmps201
   go_wp2_with fail
   refine (R.out _).mono ?_
   rintro e w1 ⟨rfl, hb1⟩
   have K1 : Below w.heap.size w w1 := Yc hb1 bl0
   have Z1 := K1.size
   have b1_0 := Yk (g := w.heap.size) hb1 bn0
   (try simp only [lst, ls0, ls1] at b1_0)
   clear hb1
   obtain ⟨c1_0, f1_0, l1_0, e1_0, k1_0⟩ := Yf b1_0
   have o1_0 := l1_0
   go_wp2
   go_ret
   exact ⟨rfl, bl1⟩
  ·have g1 : decide (n0 < 0) = true := Y2
   rw [if_neg h1]
   go_enter Tryz.func201, Tryz.ntmps201
   go_wp2_with fail
   refine (R.out _).mono ?_
   rintro e w1 ⟨rfl, hb1⟩
   have K1 : Below w.heap.size w w1 := Yc hb1 bl0
   have Z1 := K1.size
   have b1_0 := Yk (g := w.heap.size) hb1 bn0
   (try simp only [lst, ls0, ls1] at b1_0)
   clear hb1
   obtain ⟨c1_0, f1_0, l1_0, e1_0, k1_0⟩ := Yf b1_0
   have o1_0 := l1_0
   go_wp2
   go_ret
   exact ⟨rfl, bl1⟩
 ·rw [if_neg h0]
  have g1 : (e9 == 0) = false := by simpa using h0
  have g2 : decide (e9 = 0) = false := decide_eq_false h0
  go_enter Tryz.func201, Tryz.ntmps201
  go_wp2_with fail
  refine (R.out _).mono ?_
  rintro e w1 ⟨rfl, hb1⟩
  have K1 : Below w.heap.size w w1 := Yc hb1 bl0
  have Z1 := K1.size
  have b1_0 := Yk (g := w.heap.size) hb1 bn0
  (try simp only [lst, ls0, ls1] at b1_0)
  clear hb1
  obtain ⟨c1_0, f1_0, l1_0, e1_0, k1_0⟩ := Yf b1_0
  have o1_0 := l1_0
  go_wp2
  go_ret
  exact ⟨rfl, bl1⟩
theorem bequal_any (g1 o1 c1 g2 o2 c2 n : Nat) (bs : List Int) (hl : bs.length = n) (hb : InB bs) (w : World) (h1 : BySl w g1 o1 bs) (h2 : BySl w g2 o2 bs) :
  Calls Tryz.prog 204 #[.slice (some ⟨g1, o1, none⟩) n c1, .slice (some ⟨g2, o2, none⟩) n c2] w (RB w (.bool true)) := by
 have e1 := bytes_str w g1 o1 c1 n bs hl hb h1
 have e2 := bytes_str w g2 o2 c2 n bs hl hb h2
 obtain ⟨sx, hsx⟩ : ∃ s, (bs.map fun x => UInt8.ofNat x.toNat).toArray = s := ⟨_, rfl⟩
 rw [hsx] at e1 e2
 clear hsx h1 h2 hl hb
 go_enter Tryz.func204, Tryz.ntmps204
 go_wp2
 go_ret
 exact ⟨rfl, bl0⟩
theorem pat_any (i gb g off cap : Nat) (bs : List Int) (hl : bs.length = 80) (hb : InB bs) (hi : i < 9) (hi2 : 1 ≤ i) (hc : 80 ≤ cap) (w : World) (hB : Blk w gb 72 #[.slice (some ⟨g, off, none⟩) 80 cap]) (h : BySl w g off bs) :
  Calls Tryz.prog 205 #[.int .i64 i, .pointer (some ⟨gb, 0, none⟩)] w (RB w (.int .i64 (IntKind.i64.wrap (gtS ((bs.drop (8 * i)).take 8) 8)))) := by
 have hs := (h.tail (8 * i) Yo).head 8 (by rw [List.length_drop]; omega)
 have hlen : ((bs.drop (8 * i)).take 8).length = 8 := by rw [List.length_take, List.length_drop]; omega
 have hin : InB ((bs.drop (8 * i)).take 8) := fun x hx => hb x (List.mem_of_mem_drop (List.mem_of_mem_take hx))
 obtain ⟨c0, f0, l0, e0, k0⟩ := Yf hB
 have RG := Yh (fun c W hW => oget_any g (off + 8 * i) c ((bs.drop (8 * i)).take 8) hlen hin W hW)
 have HS := Yh hs
 obtain ⟨r9, hr9⟩ : ∃ r, gtS ((bs.drop (8 * i)).take 8) 8 = r := ⟨_, rfl⟩
 rw [hr9] at RG ⊢
 obtain ⟨z9, hz9⟩ : ∃ z, IntKind.i64.wrap r9 = z := ⟨_, rfl⟩
 rw [hz9]
 have hz8 : wrap64 r9 = z9 := (IntWalk.i64_left r9).symm.trans hz9
 clear hr9 hlen hin hs h hb hl hB
 have w1 : IntKind.i64.wrap (8 * (i : Int)) = ((8 * i : Nat) : Int) := Y4
 have w2 : IntKind.i64.wrap (((8 * i : Nat) : Int) + 8) = ((8 * i + 8 : Nat) : Int) := Y4
 obtain ⟨j, hj⟩ : ∃ j, 8 * i = j := ⟨_, rfl⟩
 obtain ⟨j8, hj8⟩ : ∃ j8, j + 8 = j8 := ⟨_, rfl⟩
 rw [hj] at w1 w2 RG HS
 rw [hj8] at w2
 have p1 : j ≤ j8 := by omega
 have p2 : j8 ≤ 80 := by omega
 have p3 : (j : Int) ≤ (j8 : Int) := by omega
 have p4 : (j8 : Int) ≤ (cap : Int) := by omega
 have p5 : j8 - j = 8 := by omega
 have p5 : j8 - j = 8 := by omega
 have p7 : j8 ≤ cap := by omega
 have p8 : j < 80 := by omega
 clear hj hj8
 go_enter Tryz.func205, Tryz.ntmps205
 go_wp2_with fail
 refine (RG.out (cap - j) _ HS.out).mono ?_
 rintro e w1 ⟨rfl, hb1⟩
 have K1 : Below w.heap.size w w1 := Yc hb1 bl0
 have Z1 := K1.size
 clear hb1
 go_wp2
 go_ret
 exact ⟨rfl, bl1⟩
theorem svalidP (lo hi : Int) (w : World) : Calls Tryz.prog 50 #[.agg #[.int .i64 lo, .int .i64 hi]] w (RB w (.bool (vS lo hi))) := (svalid_any lo hi w).mono fun _ _ ⟨h1, h2⟩ => ⟨h1, by rw [h2]; exact below_new _ _⟩
def wkV (pp : Int) (r : Int × Int × Int) : Value := if r.2.2 = 0 then .tuple #[.agg #[.int .i64 0, .int .i64 r.1, .int .i64 r.2.1, .int .i64 pp, .int .i64 0, .int .i64 0], .int .i64 0] else .tuple #[.agg #[.int .i64 0, .int .i64 0, .int .i64 0, .int .i64 0, .int .i64 0, .int .i64 0], .int .i64 r.2.2]
theorem pwake_any (n0 n1 n2 : Int) (k : K6) (hk : kE k.at_ k.lo k.hi k.pp k.le k.re = 0) (hn : 0 ≤ n0) (w : World) :
  Calls Tryz.prog 174 #[.agg #[.int .i64 n0, .int .i64 k.at_, .int .i64 k.lo, .int .i64 k.hi, .int .i64 k.pp, .int .i64 k.le, .int .i64 k.re], .agg #[.int .i64 n1, .int .i64 n2], .int .i64 0] w (RB w (wkV k.pp (wakeT k n0 n1 n2))) := by
 unfold wakeT
 rw [if_pos hk, if_pos hn]
 obtain ⟨h1, h2, h3, h4, -, -⟩ := kE_ints hk
 obtain ⟨a, lo, hi, pp, le, re⟩ := k
 dsimp only at hk h1 h2 h3 h4 ⊢
 have r := ikcheck_any a lo hi pp le re
 rw [hk] at r
 have R := Yh r; clear r hk
 skip
 have hz : vT 0 = true := by decide
 have RV := Yh (fun W => svalidP n1 n2 W)
 by_cases hv : vS n1 n2 = true
 ·rw [if_pos hv]
  rw [hv] at RV
  by_cases h0 : 0 ≤ n1
  ·rw [if_pos h0]
   have g1 : decide (n1 < 0) = false := Y3
   have ra := fun W => iadd_all lo hi n1 n2 W
   rw [h1, hv] at ra
   by_cases hs : vS (lo + n1) (hi + n2) = true
   ·rw [if_pos hs]
    have e1 : opV (true && true) true (lo + n1) (hi + n2) = .tuple #[.agg #[.int .i64 (lo + n1), .int .i64 (hi + n2)], .int .i64 0] := by
     unfold opV mkS; simp [hs]
    rw [e1] at ra
    have RA := Yh ra; clear ra e1
    have hk2 : kE 0 (lo + n1) (hi + n2) pp 0 0 = 0 := kE_0 hs hz h3 h4 Yd Yd
    have RB9 := Yh (fun W => begV_ok hk2 ▸ ibegin_any 0 (lo + n1) (hi + n2) pp W)
    unfold wkV
    rw [if_pos rfl]
    obtain ⟨x, hx⟩ : ∃ x, lo + n1 = x := ⟨_, rfl⟩
    obtain ⟨y, hy⟩ : ∃ y, hi + n2 = y := ⟨_, rfl⟩
    simp only [hx, hy] at RA RB9 ⊢
    clear hx hy hk2 hs
    go_enter Tryz.func174, Tryz.ntmps174
    go_wp2_with fail
    refine (R.out _).mono ?_
    rintro e w1 ⟨rfl, hb1⟩
    have K1 : Below w.heap.size w w1 := Yc hb1 bl0
    have Z1 := K1.size
    have b1_0 := Yk (g := w.heap.size) hb1 bn0
    (try simp only [lst, ls0, ls1] at b1_0)
    have b1_1 := Yk (g := w.heap.size + 1) hb1 bn0
    (try simp only [lst, ls0, ls1] at b1_1)
    have b1_2 := Yk (g := w.heap.size + 2) hb1 bn0
    (try simp only [lst, ls0, ls1] at b1_2)
    clear hb1
    obtain ⟨c1_0, f1_0, l1_0, e1_0, k1_0⟩ := Yf b1_0
    obtain ⟨c1_1, f1_1, l1_1, e1_1, k1_1⟩ := Yf b1_1
    obtain ⟨c1_2, f1_2, l1_2, e1_2, k1_2⟩ := Yf b1_2
    have o1_0 := l1_0
    have o1_1 := l1_1
    have o1_2 := l1_2
    go_wp2_with fail
    refine (RV.out _).mono ?_
    rintro e w2 ⟨rfl, hb2⟩
    have K2 : Below w.heap.size w w2 := Yc hb2 bl1
    have Z2 := K2.size
    have b1_0' := Yk (g := w.heap.size) hb2 bn1
    (try simp only [lst, ls0, ls1] at b1_0')
    have b1_1' := Yk (g := w.heap.size + 1) hb2 bn1
    (try simp only [lst, ls0, ls1] at b1_1')
    have b1_2' := Yk (g := w.heap.size + 2) hb2 bn1
    (try simp only [lst, ls0, ls1] at b1_2')
    clear hb2 K1
    clear b1_0 c1_0 f1_0 l1_0 e1_0 k1_0; have b1_0 := b1_0'; clear b1_0'
    clear b1_1 c1_1 f1_1 l1_1 e1_1 k1_1; have b1_1 := b1_1'; clear b1_1'
    clear b1_2 c1_2 f1_2 l1_2 e1_2 k1_2; have b1_2 := b1_2'; clear b1_2'
    obtain ⟨c1_0, f1_0, l1_0, e1_0, k1_0⟩ := Yf b1_0
    obtain ⟨c1_1, f1_1, l1_1, e1_1, k1_1⟩ := Yf b1_1
    obtain ⟨c1_2, f1_2, l1_2, e1_2, k1_2⟩ := Yf b1_2
    go_wp2_with fail
    refine (tvalid_any 0 _).mono ?_
    rintro e wq1 ⟨rfl, rfl⟩
    go_wp2_with fail
    refine (RA.out _).mono ?_
    rintro e w3 ⟨rfl, hb3⟩
    have K3 : Below w.heap.size w w3 := Yc hb3 bl1
    have Z3 := K3.size
    have b1_0' := Yk (g := w.heap.size) hb3 bn1
    (try simp only [lst, ls0, ls1] at b1_0')
    have b1_1' := Yk (g := w.heap.size + 1) hb3 bn1
    (try simp only [lst, ls0, ls1] at b1_1')
    have b1_2' := Yk (g := w.heap.size + 2) hb3 bn1
    (try simp only [lst, ls0, ls1] at b1_2')
    clear hb3 K2
    clear b1_0 c1_0 f1_0 l1_0 e1_0 k1_0; have b1_0 := b1_0'; clear b1_0'
    clear b1_1 c1_1 f1_1 l1_1 e1_1 k1_1; have b1_1 := b1_1'; clear b1_1'
    clear b1_2 c1_2 f1_2 l1_2 e1_2 k1_2; have b1_2 := b1_2'; clear b1_2'
    obtain ⟨c1_0, f1_0, l1_0, e1_0, k1_0⟩ := Yf b1_0
    obtain ⟨c1_1, f1_1, l1_1, e1_1, k1_1⟩ := Yf b1_1
    obtain ⟨c1_2, f1_2, l1_2, e1_2, k1_2⟩ := Yf b1_2
    go_wp2_with fail
    refine (RB9.out _).mono ?_
    rintro e w4 ⟨rfl, hb4⟩
    have K4 : Below w.heap.size w w4 := Yc hb4 bl1
    have Z4 := K4.size
    have b1_0' := Yk (g := w.heap.size) hb4 bn1
    (try simp only [lst, ls0, ls1] at b1_0')
    have b1_1' := Yk (g := w.heap.size + 1) hb4 bn1
    (try simp only [lst, ls0, ls1] at b1_1')
    have b1_2' := Yk (g := w.heap.size + 2) hb4 bn1
    (try simp only [lst, ls0, ls1] at b1_2')
    have b4_0 := Yk (g := w3.heap.size) hb4 bn0
    (try simp only [lst, ls0, ls1] at b4_0)
    clear hb4 K3
    clear b1_0 c1_0 f1_0 l1_0 e1_0 k1_0; have b1_0 := b1_0'; clear b1_0'
    clear b1_1 c1_1 f1_1 l1_1 e1_1 k1_1; have b1_1 := b1_1'; clear b1_1'
    clear b1_2 c1_2 f1_2 l1_2 e1_2 k1_2; have b1_2 := b1_2'; clear b1_2'
    obtain ⟨c1_0, f1_0, l1_0, e1_0, k1_0⟩ := Yf b1_0
    obtain ⟨c1_1, f1_1, l1_1, e1_1, k1_1⟩ := Yf b1_1
    obtain ⟨c1_2, f1_2, l1_2, e1_2, k1_2⟩ := Yf b1_2
    obtain ⟨c4_0, f4_0, l4_0, e4_0, k4_0⟩ := Yf b4_0
    have o4_0 := l4_0
    go_wp2
    exact Yb (v := .tuple #[.agg #[.int .i64 0, .int .i64 x, .int .i64 y, .int .i64 pp, .int .i64 0, .int .i64 0], .int .i64 0]) (by simp [results, Tryz.results174, go_sem, *]) rfl ⟨rfl, bl1⟩
   ·rw [if_neg hs]
    have e1 : opV (true && true) true (lo + n1) (hi + n2) = .tuple #[.agg #[.int .i64 0, .int .i64 0], .int .i64 4] := by
     unfold opV mkS; simp [hs]
    rw [e1] at ra
    have RA := Yh ra; clear ra e1
    unfold wkV
    rw [if_neg Yd]
    go_enter Tryz.func174, Tryz.ntmps174
    go_wp2_with fail
    refine (R.out _).mono ?_
    rintro e w1 ⟨rfl, hb1⟩
    have K1 : Below w.heap.size w w1 := Yc hb1 bl0
    have Z1 := K1.size
    have b1_0 := Yk (g := w.heap.size) hb1 bn0
    (try simp only [lst, ls0, ls1] at b1_0)
    have b1_1 := Yk (g := w.heap.size + 1) hb1 bn0
    (try simp only [lst, ls0, ls1] at b1_1)
    have b1_2 := Yk (g := w.heap.size + 2) hb1 bn0
    (try simp only [lst, ls0, ls1] at b1_2)
    clear hb1
    obtain ⟨c1_0, f1_0, l1_0, e1_0, k1_0⟩ := Yf b1_0
    obtain ⟨c1_1, f1_1, l1_1, e1_1, k1_1⟩ := Yf b1_1
    obtain ⟨c1_2, f1_2, l1_2, e1_2, k1_2⟩ := Yf b1_2
    have o1_0 := l1_0
    have o1_1 := l1_1
    have o1_2 := l1_2
    go_wp2_with fail
    refine (RV.out _).mono ?_
    rintro e w2 ⟨rfl, hb2⟩
    have K2 : Below w.heap.size w w2 := Yc hb2 bl1
    have Z2 := K2.size
    have b1_0' := Yk (g := w.heap.size) hb2 bn1
    (try simp only [lst, ls0, ls1] at b1_0')
    have b1_1' := Yk (g := w.heap.size + 1) hb2 bn1
    (try simp only [lst, ls0, ls1] at b1_1')
    have b1_2' := Yk (g := w.heap.size + 2) hb2 bn1
    (try simp only [lst, ls0, ls1] at b1_2')
    clear hb2 K1
    clear b1_0 c1_0 f1_0 l1_0 e1_0 k1_0; have b1_0 := b1_0'; clear b1_0'
    clear b1_1 c1_1 f1_1 l1_1 e1_1 k1_1; have b1_1 := b1_1'; clear b1_1'
    clear b1_2 c1_2 f1_2 l1_2 e1_2 k1_2; have b1_2 := b1_2'; clear b1_2'
    obtain ⟨c1_0, f1_0, l1_0, e1_0, k1_0⟩ := Yf b1_0
    obtain ⟨c1_1, f1_1, l1_1, e1_1, k1_1⟩ := Yf b1_1
    obtain ⟨c1_2, f1_2, l1_2, e1_2, k1_2⟩ := Yf b1_2
    go_wp2_with fail
    refine (tvalid_any 0 _).mono ?_
    rintro e wq1 ⟨rfl, rfl⟩
    go_wp2_with fail
    refine (RA.out _).mono ?_
    rintro e w3 ⟨rfl, hb3⟩
    have K3 : Below w.heap.size w w3 := Yc hb3 bl1
    have Z3 := K3.size
    have b1_0' := Yk (g := w.heap.size) hb3 bn1
    (try simp only [lst, ls0, ls1] at b1_0')
    have b1_1' := Yk (g := w.heap.size + 1) hb3 bn1
    (try simp only [lst, ls0, ls1] at b1_1')
    have b1_2' := Yk (g := w.heap.size + 2) hb3 bn1
    (try simp only [lst, ls0, ls1] at b1_2')
    clear hb3 K2
    clear b1_0 c1_0 f1_0 l1_0 e1_0 k1_0; have b1_0 := b1_0'; clear b1_0'
    clear b1_1 c1_1 f1_1 l1_1 e1_1 k1_1; have b1_1 := b1_1'; clear b1_1'
    clear b1_2 c1_2 f1_2 l1_2 e1_2 k1_2; have b1_2 := b1_2'; clear b1_2'
    obtain ⟨c1_0, f1_0, l1_0, e1_0, k1_0⟩ := Yf b1_0
    obtain ⟨c1_1, f1_1, l1_1, e1_1, k1_1⟩ := Yf b1_1
    obtain ⟨c1_2, f1_2, l1_2, e1_2, k1_2⟩ := Yf b1_2
    go_wp2
    exact Yb (v := .tuple #[.agg #[.int .i64 0, .int .i64 0, .int .i64 0, .int .i64 0, .int .i64 0, .int .i64 0], .int .i64 4]) (by simp [results, Tryz.results174, go_sem, *]) rfl ⟨rfl, bl1⟩
  ·rw [if_neg h0]
   have g1 : decide (n1 < 0) = true := Y2
   unfold wkV
   rw [if_neg Yd]
   go_enter Tryz.func174, Tryz.ntmps174
   go_wp2_with fail
   refine (R.out _).mono ?_
   rintro e w1 ⟨rfl, hb1⟩
   have K1 : Below w.heap.size w w1 := Yc hb1 bl0
   have Z1 := K1.size
   have b1_0 := Yk (g := w.heap.size) hb1 bn0
   (try simp only [lst, ls0, ls1] at b1_0)
   have b1_1 := Yk (g := w.heap.size + 1) hb1 bn0
   (try simp only [lst, ls0, ls1] at b1_1)
   have b1_2 := Yk (g := w.heap.size + 2) hb1 bn0
   (try simp only [lst, ls0, ls1] at b1_2)
   clear hb1
   obtain ⟨c1_0, f1_0, l1_0, e1_0, k1_0⟩ := Yf b1_0
   obtain ⟨c1_1, f1_1, l1_1, e1_1, k1_1⟩ := Yf b1_1
   obtain ⟨c1_2, f1_2, l1_2, e1_2, k1_2⟩ := Yf b1_2
   have o1_0 := l1_0
   have o1_1 := l1_1
   have o1_2 := l1_2
   go_wp2_with fail
   refine (RV.out _).mono ?_
   rintro e w2 ⟨rfl, hb2⟩
   have K2 : Below w.heap.size w w2 := Yc hb2 bl1
   have Z2 := K2.size
   have b1_0' := Yk (g := w.heap.size) hb2 bn1
   (try simp only [lst, ls0, ls1] at b1_0')
   have b1_1' := Yk (g := w.heap.size + 1) hb2 bn1
   (try simp only [lst, ls0, ls1] at b1_1')
   have b1_2' := Yk (g := w.heap.size + 2) hb2 bn1
   (try simp only [lst, ls0, ls1] at b1_2')
   clear hb2 K1
   clear b1_0 c1_0 f1_0 l1_0 e1_0 k1_0; have b1_0 := b1_0'; clear b1_0'
   clear b1_1 c1_1 f1_1 l1_1 e1_1 k1_1; have b1_1 := b1_1'; clear b1_1'
   clear b1_2 c1_2 f1_2 l1_2 e1_2 k1_2; have b1_2 := b1_2'; clear b1_2'
   obtain ⟨c1_0, f1_0, l1_0, e1_0, k1_0⟩ := Yf b1_0
   obtain ⟨c1_1, f1_1, l1_1, e1_1, k1_1⟩ := Yf b1_1
   obtain ⟨c1_2, f1_2, l1_2, e1_2, k1_2⟩ := Yf b1_2
   go_wp2
   exact Yb (v := .tuple #[.agg #[.int .i64 0, .int .i64 0, .int .i64 0, .int .i64 0, .int .i64 0, .int .i64 0], .int .i64 4]) (by simp [results, Tryz.results174, go_sem, *]) rfl ⟨rfl, bl1⟩
 ·rw [if_neg hv]
  have hv2 : vS n1 n2 = false := by simpa using hv
  rw [hv2] at RV
  unfold wkV
  rw [if_neg Yd]
  go_enter Tryz.func174, Tryz.ntmps174
  go_wp2_with fail
  refine (R.out _).mono ?_
  rintro e w1 ⟨rfl, hb1⟩
  have K1 : Below w.heap.size w w1 := Yc hb1 bl0
  have Z1 := K1.size
  have b1_0 := Yk (g := w.heap.size) hb1 bn0
  (try simp only [lst, ls0, ls1] at b1_0)
  have b1_1 := Yk (g := w.heap.size + 1) hb1 bn0
  (try simp only [lst, ls0, ls1] at b1_1)
  have b1_2 := Yk (g := w.heap.size + 2) hb1 bn0
  (try simp only [lst, ls0, ls1] at b1_2)
  clear hb1
  obtain ⟨c1_0, f1_0, l1_0, e1_0, k1_0⟩ := Yf b1_0
  obtain ⟨c1_1, f1_1, l1_1, e1_1, k1_1⟩ := Yf b1_1
  obtain ⟨c1_2, f1_2, l1_2, e1_2, k1_2⟩ := Yf b1_2
  have o1_0 := l1_0
  have o1_1 := l1_1
  have o1_2 := l1_2
  go_wp2_with fail
  refine (RV.out _).mono ?_
  rintro e w2 ⟨rfl, hb2⟩
  have K2 : Below w.heap.size w w2 := Yc hb2 bl1
  have Z2 := K2.size
  have b1_0' := Yk (g := w.heap.size) hb2 bn1
  (try simp only [lst, ls0, ls1] at b1_0')
  have b1_1' := Yk (g := w.heap.size + 1) hb2 bn1
  (try simp only [lst, ls0, ls1] at b1_1')
  have b1_2' := Yk (g := w.heap.size + 2) hb2 bn1
  (try simp only [lst, ls0, ls1] at b1_2')
  clear hb2 K1
  clear b1_0 c1_0 f1_0 l1_0 e1_0 k1_0; have b1_0 := b1_0'; clear b1_0'
  clear b1_1 c1_1 f1_1 l1_1 e1_1 k1_1; have b1_1 := b1_1'; clear b1_1'
  clear b1_2 c1_2 f1_2 l1_2 e1_2 k1_2; have b1_2 := b1_2'; clear b1_2'
  obtain ⟨c1_0, f1_0, l1_0, e1_0, k1_0⟩ := Yf b1_0
  obtain ⟨c1_1, f1_1, l1_1, e1_1, k1_1⟩ := Yf b1_1
  obtain ⟨c1_2, f1_2, l1_2, e1_2, k1_2⟩ := Yf b1_2
  go_wp2
  exact Yb (v := .tuple #[.agg #[.int .i64 0, .int .i64 0, .int .i64 0, .int .i64 0, .int .i64 0, .int .i64 0], .int .i64 3]) (by simp [results, Tryz.results174, go_sem, *]) rfl ⟨rfl, bl1⟩
set_option maxHeartbeats 32000000
set_option maxRecDepth 100000
def PsRel (w : World) (gN : Nat) (ns : Array Value) (vs : List Int) (G : Nat) (v i : Value) (wr : World) : Prop := ∃ q : Nat, q ≤ 7 ∧ G = 7 - q ∧ i = .int .i64 q ∧ (q = 0 → v = .slice (some ⟨w.heap.size, 0, none⟩) 8 8 ∧ BySl wr w.heap.size 0 pMagic) ∧ (0 < q → ByRow wr (gN + 1) v (bodyQ vs q) ∧ ∃ A c, v = .slice A (bodyQ vs q).length c) ∧ Blk wr gN 3 ns ∧ Below w.heap.size w wr
def SavR (w : World) (vs : List Int) (e : Ending) (w' : World) : Prop := ∃ g cap, e = .returned (.tuple #[.slice (some ⟨g, 0, none⟩) 80 cap, .int .i64 0]) ∧ 80 ≤ cap ∧ w.heap.size ≤ g ∧ BySl w' g 0 (fileB vs) ∧ Below w.heap.size w w'
theorem sav_get (n0 : Int) (k : K6) (q : Nat) (hq : q < 7) : (#[.int .i64 n0, .int .i64 k.at_, .int .i64 k.lo, .int .i64 k.hi, .int .i64 k.pp, .int .i64 k.le, .int .i64 k.re] : Array Value)[q]? = some (.int .i64 ((savVs n0 k).getD q 0)) := by
 obtain rfl | rfl | rfl | rfl | rfl | rfl | rfl : q = 0 ∨ q = 1 ∨ q = 2 ∨ q = 3 ∨ q = 4 ∨ q = 5 ∨ q = 6 := by omega
 all_goals rfl
theorem psave_err (n0 : Int) (k : K6) (hn : vT n0 = true) (he : pE n0 k ≠ 0) (w : World) :
  Calls Tryz.prog 172 #[.agg #[.int .i64 n0, .int .i64 k.at_, .int .i64 k.lo, .int .i64 k.hi, .int .i64 k.pp, .int .i64 k.le, .int .i64 k.re]] w (RB w (.tuple #[.slice none 0 0, .int .i64 (pE n0 k)])) := by
 have R := Yh (fun W => pcheck_any n0 k hn W)
 obtain ⟨e9, he9⟩ : ∃ e, pE n0 k = e := ⟨_, rfl⟩
 rw [he9] at R he ⊢
 clear he9 hn
 obtain ⟨a, lo, hi, pp, le, re⟩ := k
 dsimp only at R ⊢
 have g1 : (e9 == 0) = false := by simpa using he
 have g2 : decide (e9 = 0) = false := decide_eq_false he
 have g3 : (e9 != 0) = true := by simpa using he
 go_enter Tryz.func172, Tryz.ntmps172
 go_wp2_with fail
 refine (R.out _).mono ?_
 rintro e w1 ⟨rfl, hb1⟩
 have K1 : Below w.heap.size w w1 := Yc hb1 bl0
 have Z1 := K1.size
 clear hb1
 go_wp2
 exact Yb (v := .tuple #[.slice none 0 0, .int .i64 e9]) (by simp [results, Tryz.results172, go_sem, *]) rfl ⟨rfl, bl1⟩
theorem psave_ok (n0 : Int) (k : K6) (hn : vT n0 = true) (he : pE n0 k = 0) (w : World) :
  Calls Tryz.prog 172 #[.agg #[.int .i64 n0, .int .i64 k.at_, .int .i64 k.lo, .int .i64 k.hi, .int .i64 k.pp, .int .i64 k.le, .int .i64 k.re]] w (SavR w (savVs n0 k)) := by
 have R := Yh (fun W => pcheck_any n0 k hn W)
 rw [he] at R
 have hget := sav_get n0 k
 have hint := sav_ints (pE_0 he).1 hn
 have hvl : (savVs n0 k).length = 7 := rfl
 obtain ⟨vs, hvs⟩ : ∃ vs, savVs n0 k = vs := ⟨_, rfl⟩
 rw [hvs] at hget hint hvl ⊢
 have HGET := Yh hget; have HINT := Yh hint; have HVL := Yh hvl; clear hget hint hvl hn he hvs
 obtain ⟨i0, hif, hz0, hz1, hz2⟩ := info_parts infoU8
 have HSH := Yh (fun g c h W hW => hshort64_any g 0 c (bodyQ vs 7) (bodyQ_len vs 7) h (bodyQ_in vs 7) W hW)
 go_enter Tryz.func172, Tryz.ntmps172
 go_wp2_with fail
 refine (R.out _).mono ?_
 rintro e w1 ⟨rfl, hb1⟩
 have K1 : Below w.heap.size w w1 := Yc hb1 bl0
 have Z1 := K1.size
 have b1_0 := Yk (g := w.heap.size) hb1 bn0
 (try simp only [lst, ls0, ls1] at b1_0)
 clear hb1
 obtain ⟨c1_0, f1_0, l1_0, e1_0, k1_0⟩ := Yf b1_0
 have o1_0 := l1_0
 have HK1 := Yh (show Kp w w1 from K1)
 clear K1
 obtain ⟨a, lo, hi, pp, le, re⟩ := k
 skip
 have hcv := Go.Joins.run_convert_bytes_const_at (P := Tryz.prog) w1 72 5 #[.int .u8 115, .int .u8 101, .int .u8 99, .int .u8 116, .int .u8 105, .int .u8 109, .int .u8 101, .int .u8 49] 8 8 w1.heap.size rfl Tryz.underlying72 (by rfl)
 go_upto_region 6 with fail
 obtain ⟨wA, hwA⟩ : ∃ x : World, x = (w1.alloc (.cells #[.int .u8 115, .int .u8 101, .int .u8 99, .int .u8 116, .int .u8 105, .int .u8 109, .int .u8 101, .int .u8 49] 5 (8, 9))).alloc (.cells #[.int .i64 a, .int .i64 lo, .int .i64 hi, .int .i64 pp, .int .i64 le, .int .i64 re] 44) := ⟨_, rfl⟩
 have h00 : BySl (w1.alloc (.cells #[.int .u8 115, .int .u8 101, .int .u8 99, .int .u8 116, .int .u8 105, .int .u8 109, .int .u8 101, .int .u8 49] 5 (8, 9))) w1.heap.size 0 pMagic := ⟨by simp, fun j hj => by
  rw [Nat.zero_add, Go.Joins.cell_alloc_mark_at w1 _ _ _ _ j rfl]
  have hj8 : j < 8 := hj
  obtain rfl | rfl | rfl | rfl | rfl | rfl | rfl | rfl : j = 0 ∨ j = 1 ∨ j = 2 ∨ j = 3 ∨ j = 4 ∨ j = 5 ∨ j = 6 ∨ j = 7 := by omega
  all_goals rfl⟩
 have hmr : BySl wA w1.heap.size 0 pMagic := by rw [hwA]; exact h00.below (below_new _ _)
 have bA : Blk wA w.heap.size 161 #[.int .i64 n0, .int .i64 a, .int .i64 lo, .int .i64 hi, .int .i64 pp, .int .i64 le, .int .i64 re] := by rw [hwA]; exact (b1_0.alloc _).alloc _
 have bK : Blk wA (w1.heap.size + 1) 44 #[.int .i64 a, .int .i64 lo, .int .i64 hi, .int .i64 pp, .int .i64 le, .int .i64 re] := by rw [hwA, ← show (w1.alloc (.cells #[.int .u8 115, .int .u8 101, .int .u8 99, .int .u8 116, .int .u8 105, .int .u8 109, .int .u8 101, .int .u8 49] 5 (8, 9))).heap.size = w1.heap.size + 1 from by simp]; exact Blk.new _ _ _
 have SA : Below w1.heap.size w1 wA := by rw [hwA]; exact Yc (below_new _ _) (below_new _ _)
 have ZA : w1.heap.size + 2 ≤ wA.heap.size := by rw [hwA]; simp
 rw [← hwA]
 clear hwA h00 hcv b1_0 c1_0 f1_0 l1_0 e1_0 k1_0 o1_0
 obtain ⟨cA, fA, lA, eA, kA⟩ := Yf bA
 obtain ⟨cK, fK, lK, eK, kK⟩ := Yf bK
 have HMR := Yh hmr; have HSA := Yh SA; clear hmr SA
 go_wp2
 go_loopg [5, 36] 7 (fun G v i wr => PsRel w1 wA.heap.size #[.int .i64 n0, .int .i64 a, .int .i64 lo, .int .i64 hi, .int .i64 pp, .int .i64 le, .int .i64 re] vs G v i wr)
 case atStart => exact ⟨0, Yo, Yo, rfl, fun _ => ⟨rfl, HMR.out.below (below_new _ _)⟩, Ye, Blk.new _ _ _, HSA.out.alloc Yo _⟩
 case round =>
  obtain ⟨q, hq, rfl, rfl, hr0, hr1, bN, KR⟩ := hrel
  have ZR := KR.size
  clear HMR HSA cA fA lA eA kA cK fK lK eK kK bA bK
  have hbl := bodyQ_len vs q
  have lN9 := bN.lt
  by_cases hlt : q < 7
  ·have gq : decide ((q : Int) < 7) = true := Y2
   have gqn : decide (q < 7) = true := decide_eq_true hlt
   have pq : (q : Int) < 7 := by omega
   have wq : IntKind.i64.wrap ((q : Int) + 1) = ((q + 1 : Nat) : Int) := Y4
   have cN := (bN.cell q).trans (HGET.out q hlt)
   have lN := bN.lt
   have hst : bodyQ vs (q + 1) = bodyQ vs q ++ putB (IntKind.u64.wrap (vs.getD q 0)) 8 := rfl
   obtain ⟨v9, hv9⟩ : ∃ v, vs.getD q 0 = v := ⟨_, rfl⟩
   rw [hv9] at cN hst
   obtain ⟨u9, hu9⟩ : ∃ u, IntKind.u64.wrap v9 = u := ⟨_, rfl⟩
   have hu0 := (u64_in v9)
   rw [hu9] at hst hu0
   by_cases hq0 : 0 < q
   ·obtain ⟨hrow, A, c, rfl⟩ := hr1 hq0
    clear hr0 hr1
    obtain ⟨bq, hbq⟩ : ∃ b, bodyQ vs q = b := ⟨_, rfl⟩
    rw [hbq] at hrow hst hbl ⊢
    have HBQ := Yh hbq; have HST := Yh hst; have HROW := Yh hrow; have HKR := Yh KR; have HBN := Yh bN; have HBL := Yh hbl
    have hown := hrow.own
    clear hbq hst hrow KR bN hv9 hbl
    generalize hv : (Value.slice A bq.length c) = v at *
    have HV := Yh hv; clear hv
    go_wp2_with fail
    refine (oput_any u9 8 hu0.1 hu0.2 Yd Yd _).mono ?_
    rintro e w3 ⟨gp, rfl, hgp, hlp, hby, hb3⟩
    have HR3 := Yh (HROW.out.below hb3); have HK3 := Yh (Yc hb3 HKR.out); have HBN3 := Yh (Yk hb3 HBN.out); have HBY := Yh hby.sl
    have Z3 := hb3.size
    clear hb3 hby HROW HKR HBN cN
    go_wp2_with (at_builtin; refine wpList_append_lies _ rfl _ _ 72 rfl (wA.heap.size + 1) 5 i0 (.int .u8 0) 1 1 Tryz.underlying72 hif hz0 hz1 hz2 rfl Yd v bq.length (bcells bq) rfl HR3.out ⟨gp, 0, none⟩ 8 8 (bcells (putB u9 8)) rfl rfl (news_bytes HBY.out) (one_bytes _) ?c2 ?c3 ?c4 ?c5 _ rfl ?_)
    case c2 => omega
    case c3 => have := HBL.out; unfold maxLen; omega
    case c4 => have := HBL.out; omega
    case c5 => first | omega | (simp; omega)
    intro g7 c7 w7 hown7 hgrow hlie hglt
    have K7 : Below w1.heap.size w1 w7 := HK3.out.grown hgrow Yo (fun k hk => by have := (hown k hk).1; omega)
    have hr7 : ByRow w7 (wA.heap.size + 1) (.slice (some ⟨g7, 0, none⟩) (bq.length + 8) c7) (bodyQ vs (q + 1)) := by
     unfold ByRow
     rw [HST.out, lla, putB_length, bcells_app]; exact hown7
    have hl7 : (bodyQ vs (q + 1)).length = bq.length + 8 := by rw [HST.out, lla, putB_length]
    have bN7 : Blk w7 wA.heap.size 3 #[.int .i64 n0, .int .i64 a, .int .i64 lo, .int .i64 hi, .int .i64 pp, .int .i64 le, .int .i64 re] := (hgrow.block _ HBN3.out.lt (fun e => by have := hown _ e.symm; omega)).trans HBN3.out
    have H7 := Yh (Ya K7 (Ya hr7 (Ya hl7 bN7)))
    clear hown7 hgrow hlie hglt hr7 K7 hl7 bN7
    go_wp2
    go_roundg (7 - (q + 1))
    case measure => omega
    case rel => exact ⟨q + 1, Yo, Yo, by go_num, (fun h => absurd h Yo), fun _ => ⟨H7.out.2.1, _, _, by rw [H7.out.2.2.1]⟩, H7.out.2.2.2, H7.out.1⟩
   ·obtain rfl : q = 0 := by omega
    obtain ⟨rfl, hmg⟩ := hr0 rfl
    have HMG := Yh hmg; have HKR := Yh KR; have HBN := Yh bN; have HST := Yh hst
    clear hr0 hr1 hmg KR bN hst hv9 hbl
    go_wp2_with fail
    refine (oput_any u9 8 hu0.1 hu0.2 Yd Yd _).mono ?_
    rintro e w3 ⟨gp, rfl, hgp, hlp, hby, hb3⟩
    have HM3 := Yh (HMG.out.below hb3); have HK3 := Yh (Yc hb3 HKR.out); have HBN3 := Yh (Yk hb3 HBN.out); have HBY := Yh hby.sl
    have Z3 := hb3.size
    clear hb3 hby HMG HKR HBN cN
    go_wp2_with (at_builtin; refine wpList_append_grows _ rfl _ _ 72 rfl 5 i0 (.int .u8 0) 1 1 Tryz.underlying72 hif hz0 hz1 hz2 rfl Yd (some ⟨w1.heap.size, 0, none⟩) 8 8 (bcells pMagic) rfl (fun h => by cases h) rfl (fun b9 h => by injection h with h; subst h; exact news_bytes HM3.out) ⟨gp, 0, none⟩ 8 8 (bcells (putB u9 8)) rfl rfl (news_bytes HBY.out) (one_bytes _) Yd Yd Yd ?_)
    intro v7 w7 hown7 hgrow
    have K7 : Below w1.heap.size w1 w7 := HK3.out.grown hgrow Yo (fun k hk => by cases hk)
    have hr7 : ByRow w7 (wA.heap.size + 1) v7 (bodyQ vs (0 + 1)) := by
     refine ByRow.mono (base := w3.heap.size) ?_ Yo
     unfold ByRow
     rw [HST.out, lla, putB_length, bcells_app]; exact hown7
    have hl7 : (bodyQ vs (0 + 1)).length = 16 := bodyQ_len vs 1
    have bN7 : Blk w7 wA.heap.size 3 #[.int .i64 n0, .int .i64 a, .int .i64 lo, .int .i64 hi, .int .i64 pp, .int .i64 le, .int .i64 re] := (hgrow.block _ HBN3.out.lt (fun e => by cases e)).trans HBN3.out
    obtain ⟨g8, cp8, rfl, -, -, -⟩ := hr7.form (by rw [hl7]; decide)
    have H7 := Yh (Ya K7 (Ya hr7 bN7))
    clear hown7 hgrow hr7 K7 bN7
    go_wp2
    go_roundg (7 - (0 + 1))
    case measure => omega
    case rel => exact ⟨0 + 1, Yo, Yo, by go_num, Ye, fun _ => ⟨H7.out.2.1, _, _, rfl⟩, H7.out.2.2, H7.out.1⟩
  ·obtain rfl : q = 7 := by omega
   obtain ⟨hrow, A, c, rfl⟩ := hr1 Yd
   clear hr0 hr1
   have gq : decide (((7 : Nat) : Int) < 7) = false := by decide
   have gq2 : decide ((7 : Int) < 7) = false := by decide
   obtain ⟨g9, cp9, e9, hg9, hl9, hat9⟩ := hrow.form (by rw [bodyQ_len]; omega)
   rw [hbl] at e9
   rw [hbl]
   obtain ⟨rfl, rfl⟩ : A = some ⟨g9, 0, none⟩ ∧ c = cp9 := by injection e9 with a9 b9 c9; exact ⟨a9, c9⟩
   have hcp := hrow.cap
   rw [hbl] at hcp
   have HROW := Yh hrow; have HAT := Yh hat9.sl; have HKR := Yh KR
   clear e9 hrow hat9 KR bN hbl
   rw [show (8 + 8 * 7 : Nat) = 64 from rfl] at hcp ⊢
   go_wp2_with fail
   refine (HSH.out g9 c hcp _ HAT.out).mono ?_
   rintro e w3 ⟨gp, rfl, hgp, hlp, hby, hb3⟩
   have HR3 := Yh (HROW.out.below hb3); have HK3 := Yh (Yc hb3 HKR.out)
   have HBY := Yh (show BySl w3 gp 0 ((sha64 (bodyQ vs 7)).take 16) from hby.sl.head 16 (by rw [sha64_len]; decide))
   have Z3 := hb3.size
   clear hb3 hby HROW HKR HAT
   obtain ⟨hh, hhh⟩ : ∃ h, (sha64 (bodyQ vs 7)).take 16 = h := ⟨_, rfl⟩
   have hhl : hh.length = 16 := by rw [← hhh, List.length_take, sha64_len]; rfl
   rw [hhh] at HBY
   obtain ⟨bq, hbq⟩ : ∃ b, bodyQ vs 7 = b := ⟨_, rfl⟩
   have hbl : bq.length = 64 := by rw [← hbq]; exact bodyQ_len vs 7
   rw [hbq] at HR3
   have HF := Yh (show fileB vs = bq ++ hh from by rw [← hhh, ← hbq]; rfl)
   have HBL := Yh hbl; have HHL := Yh hhl
   clear hhh hbq hbl hhl HSH
   have HR4 : Hid (w3.ownsRow (wA.heap.size + 1) 5 1 (.slice (some ⟨g9, 0, none⟩) 64 c) 64 (bcells bq)) := Yh (by have h := HR3.out; unfold ByRow at h; rw [HBL.out] at h; exact h)
   have hown := World.ownsRow.lt HR4.out
   generalize hv : (Value.slice (some ⟨g9, 0, none⟩) 64 c) = v at *
   have HV := Yh hv; clear hv
   go_wp2_with (at_builtin; refine wpList_append_lies _ rfl _ _ 72 rfl (wA.heap.size + 1) 5 i0 (.int .u8 0) 1 1 Tryz.underlying72 hif hz0 hz1 hz2 rfl Yd v 64 (bcells bq) rfl HR4.out ⟨gp, 0, none⟩ 16 16 (bcells hh) rfl (by rw [bcells_length, HHL.out]) (news_bytes HBY.out) (one_bytes _) ?c2 ?c3 ?c4 ?c5 _ rfl ?_)
   case c2 => omega
   case c3 => unfold maxLen; omega
   case c4 => omega
   case c5 => first | omega | (simp; omega)
   intro g7 c7 w7 hown7 hgrow hlie hglt
   have K7 : Below w1.heap.size w1 w7 := HK3.out.grown hgrow Yo (fun k hk => by have := (hown k hk).1; omega)
   have hr7 : ByRow w7 (wA.heap.size + 1) (.slice (some ⟨g7, 0, none⟩) 80 c7) (fileB vs) := by
    unfold ByRow
    rw [HF.out, lla, HBL.out, HHL.out, bcells_app]; exact hown7
   obtain ⟨g8, cp8, e8, hg8, hl8, hat8⟩ := hr7.form (by rw [fileB_len]; decide)
   rw [fileB_len] at e8
   obtain ⟨rfl, rfl⟩ : g7 = g8 ∧ c7 = cp8 := by injection e8 with a9 b9 c9; injection a9 with a9; injection a9 with a9; exact ⟨a9, c9⟩
   have hcp8 := hr7.cap
   rw [fileB_len] at hcp8
   have H7 := Yh (Ya K7 hat8.sl)
   clear hown7 hgrow hlie hglt hr7 K7 hat8 e8
   go_wp2
   exact Yb (v := .tuple #[.slice (some ⟨g7, 0, none⟩) 80 c7, .int .i64 0]) (by simp [results, Tryz.results172, go_sem, *]) rfl ⟨g7, c7, rfl, hcp8, by have := HK1.out; have := Kp.b this; omega, H7.out.2, Yc H7.out.1 HK1.out⟩
end Go.Proofs.YtiinmhfolfgobaaGreatDoor
namespace Go.Proofs.YtiinmhfolfgobaaGreatDoor
open Go.RowKit Go.Shelf
end Go.Proofs.YtiinmhfolfgobaaGreatDoor
