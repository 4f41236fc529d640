/- The hash of a short message, in both worlds. -/
import Derived.Test.YtlnboheahbfgfaaSha5
import Derived.Laws.CopyOwn
namespace Go.Proofs.Ytlnboheahbfgfaa
open Go.RowKit
set_option linter.unusedSimpArgs false
set_option linter.unusedVariables false

def SmRl (w : World) (g : Nat) (G : Nat) (v i : Value) (wr : World) : Prop := G = 0 + 0 ∧ v = .slice (some ⟨g, 0, none⟩) 8 8 ∧ i = .int .i64 0 ∧ Below w.heap.size w wr
set_option maxRecDepth 100000 in
set_option maxHeartbeats 2000000 in
theorem rsum_any (gb ob cb n : Nat) (bs : List Int) (hn : bs.length = n) (n0 : 0 < n) (n1 : n ≤ 55) (hb : InB bs) (w : World) (b : BySl w gb ob bs) :
    Calls Try.prog 17 #[.slice (some ⟨gb, ob, none⟩) n cb] w (FinR w (shaS bs)) := by
  have HB := Lib.hid b; clear b
  obtain ⟨R, hR⟩ : ∃ R, shaS bs = R := ⟨_, rfl⟩
  rw [hR]
  have HRR := Lib.hid (show ∃ k, k = 8 ∧ outQ (blkS kS (padS bs) firstS) k = R from ⟨8, rfl, hR⟩); clear hR
  have HN := Lib.hid hn; have HIB := Lib.hid hb; clear hn hb
  have td : Int.tdiv (n : Int) 64 = 0 := Int.tdiv_eq_zero_of_lt (by omega) (by omega)
  go_enter Try.func17, Try.ntmps17
  go_wp2_with fail
  refine (rfirst_any _).mono ?_
  rintro e w1 ⟨gh, rfl, hgh, hw8, hb1⟩
  have Z1 := hb1.size
  have H8 := Lib.hid (Wd8.blk hw8); have K1 := Lib.hid (show Kp w w1 from hb1)
  clear hw8 hb1
  go_wp2_with fail
  refine (rconst_any _).mono ?_
  rintro e w2 ⟨gk, rfl, hgk, -, hb2⟩
  have Z2 := hb2.size
  have H82 := Lib.hid (H8.out.below hb2); have K2 := Lib.hid (kept_call hb2 K1.out.b)
  clear H8 K1 hb2
  go_wp2
  go_loopg [3, 6] 0 (fun G v i wr => SmRl w2 gh G v i wr)
  case atStart => exact ⟨by omega, rfl, rfl, Below.refl _ _⟩
  case round =>
    obtain ⟨-, rfl, rfl, KR⟩ := hrel
    have ZR := KR.size
    have HK := Lib.hid (kept_call KR K2.out)
    have HB2 := Lib.hid (HB.out.below HK.out)
    have H83 := Lib.hid (H82.out.below KR)
    clear KR
    go_wp2_with fail
    refine (rfinish_any gh 0 8 gb _ _ _ firstS bs firstS_ok HN.out n0 n1 HIB.out _ H83.out HB2.out).mono ?_
    rintro e w3 ⟨g, cap, rfl, hcp, hg, hl, hat, hb3⟩
    rw [show outQ (blkS kS (padS bs) firstS) 8 = R from by obtain ⟨k, rfl, h⟩ := HRR.out; exact h] at hat
    have HAT := Lib.hid hat; have K3 := Lib.hid (kept_call hb3 HK.out)
    have Z3 : w.heap.size ≤ wr.heap.size := HK.out.size
    clear hat hb3
    go_wp2
    go_ret
    exact ⟨g, cap, rfl, hcp, by omega, hl, HAT.out, K3.out⟩
set_option maxRecDepth 100000 in
set_option maxHeartbeats 2000000 in
theorem whole0_any (P : Value) (A : Option Addr) (n c : Nat) (hn : n < 64) (w : World) :
    Calls Try.prog 23 #[P, .slice A n c] w (RB w (.slice A n c)) := by
  have gn : decide ((64 : Int) ≤ (n : Int)) = false := decide_eq_false (by omega)
  have gnn : decide (64 ≤ n) = false := decide_eq_false (by omega)
  go_enter Try.func23, Try.ntmps23
  go_wp2_with fail
  refine (hconst_any _).mono ?_
  rintro e w1 ⟨gk, rfl, hgk, -, hb1⟩
  have K1 := Lib.hid hb1; clear hb1
  go_wp2
  go_loopg [1] 0 (fun G v wr => G = 0 + 0 ∧ v = .slice A n c ∧ Below w1.heap.size w1 wr)
  case atStart => exact ⟨by omega, rfl, Below.refl _ _⟩
  case round =>
    obtain ⟨-, rfl, KR⟩ := hrel
    have HK := Lib.hid (kept_call KR K1.out)
    clear KR
    go_wp2
    go_ret
    exact ⟨rfl, HK.out⟩
def WhRel (w : World) (gh gb cb : Nat) (s0 s1 : St8) (G : Nat) (v : Value) (wr : World) : Prop := ∃ (q : Nat) (A : Option Addr) (c : Nat) (s : St8), q ≤ 1 ∧ G = 1 - q ∧ v = .slice A (64 - 64 * q) c ∧ (q = 0 → A = some ⟨gb, 0, none⟩ ∧ c = cb) ∧ Blk wr gh 44 s.cells ∧ s = (if q = 0 then s0 else s1) ∧ GB gh w wr ∧ (q = 0 → Below w.heap.size w wr)
set_option maxRecDepth 100000 in
set_option maxHeartbeats 2000000 in
theorem whole64_any (gh gb cb : Nat) (s : St8) (P : List Int) (hs : s.ok) (hl : P.length = 64) (hb : InB P) (hcb : 64 ≤ cb) (w : World) (h : Blk w gh 44 s.cells) (b : BySl w gb 0 P) :
    Calls Try.prog 23 #[.pointer (some ⟨gh, 0, none⟩), .slice (some ⟨gb, 0, none⟩) 64 cb] w (fun e w' => (∃ v, e = .returned v) ∧ Blk w' gh 44 (blkS kS P s).cells ∧ GB gh w w') := by
  have HH := Lib.hid h; have HB := Lib.hid b; clear h b
  obtain ⟨S1, hS1⟩ : ∃ S1, blkS kS P s = S1 := ⟨_, rfl⟩
  rw [hS1]
  have HS1 := Lib.hid (show ∃ f, f = blkS ∧ f kS P s = S1 from ⟨_, rfl, hS1⟩); clear hS1
  have HL := Lib.hid hl; have HIB := Lib.hid hb; have HSO := Lib.hid hs; clear hl hb hs
  go_enter Try.func23, Try.ntmps23
  go_wp2_with fail
  refine (hconst_any _).mono ?_
  rintro e w1 ⟨gk, rfl, hgk, hks, hb1⟩
  have Z1 := hb1.size
  have HKS := Lib.hid hks; have K1 := Lib.hid hb1; have HH1 := Lib.hid (HH.out.below hb1); have HB1 := Lib.hid (HB.out.below hb1)
  clear hks hb1 HH HB
  go_wp2
  go_loopg [1] 1 (fun G v wr => WhRel w1 gh gb cb s S1 G v wr)
  case atStart => exact ⟨0, _, cb, s, by omega, by omega, rfl, fun _ => ⟨rfl, rfl⟩, HH1.out, rfl, GB.refl _ _, fun _ => Below.refl _ _⟩
  case round =>
    obtain ⟨q, A, c, s2, hq, rfl, rfl, hA, hB, hs2, KG, KR⟩ := hrel
    have HBK := Lib.hid hB; have HG := Lib.hid KG
    have HKR := Lib.hid KR
    clear hB KG KR HH1
    by_cases hq0 : q = 0
    · subst hq0
      obtain ⟨rfl, rfl⟩ := hA rfl
      obtain rfl : s2 = s := by simpa using hs2
      have K9 := HKR.out rfl
      have HKS2 := Lib.hid (HKS.out.below K9); have HB2 := Lib.hid (HB1.out.below K9)
      have Z9 := K9.size
      have lh := HBK.out.lt
      clear hA hs2 K9 HKR
      have hc7 : (64 : Int) ≤ (c : Int) := by omega
      rw [show 64 - 64 * 0 = 64 from rfl]
      go_wp2_with fail
      refine (hblock_any gh gk gb 0 _ s2 kS P kS_len HL.out HSO.out kS_ok HIB.out _ HBK.out HKS2.out HB2.out).mono ?_
      rintro e w3 ⟨rfl, hB3, hG3⟩
      rw [show blkS kS P s2 = S1 from by obtain ⟨f, rfl, h⟩ := HS1.out; exact h] at hB3
      have HB3 := Lib.hid hB3; have HG3 := Lib.hid (HG.out.trans hG3)
      clear hB3 hG3
      go_wp2
      all_goals
        go_roundg 0
        case measure => omega
        case rel => exact ⟨1, _, _, S1, by omega, by omega, rfl, fun h => absurd h (by decide), HB3.out, rfl, HG3.out, fun h => absurd h (by decide)⟩
    · obtain rfl : q = 1 := by omega
      obtain rfl : s2 = S1 := by simpa using hs2
      clear hA hs2 HKR
      rw [show 64 - 64 * 1 = 0 from rfl]
      have gq : decide ((64 : Int) ≤ ((0 : Nat) : Int)) = false := by decide
      have gq2 : decide ((64 : Int) ≤ 0) = false := by decide
      go_wp2
      go_ret
      exact ⟨⟨_, rfl⟩, HBK.out, (GB.call K1.out (GB.refl gh w)).trans HG.out⟩
theorem bcells_set (l : List Int) (p : Nat) (y : Int) : (bcells l).toArray.setIfInBounds p (.int .u8 y) = (bcells (l.set p y)).toArray := by simp [bcells, List.map_set]
theorem bcells_splice (l : List Int) (off : Nat) (c : List Int) : splice (bcells l) off (bcells c) = bcells (splice l off c) := by
  unfold splice bcells; simp [List.map_append, List.map_take, List.map_drop]
/-- The two blocks of finish: the message, the bit behind it, its length. -/
def endS (bs : List Int) : List Int := splice ((splice (List.replicate 128 0) 0 bs).set bs.length 128) 56 (putB (8 * bs.length) 8)
theorem end1_len (bs : List Int) (h : bs.length ≤ 55) : (splice (List.replicate 128 (0 : Int)) 0 bs).length = 128 := by rw [length_splice _ _ _ (by simp; omega)]; simp
theorem endS_take (bs : List Int) (h : bs.length ≤ 55) : (endS bs).take 64 = padS bs := by
  obtain ⟨n, hn⟩ : ∃ n, bs.length = n := ⟨_, rfl⟩
  have e1 : splice (List.replicate 128 (0 : Int)) 0 bs = bs ++ List.replicate (128 - n) 0 := by
    unfold splice; rw [List.take_zero, List.nil_append, Nat.zero_add, List.drop_replicate, hn]
  have e2 : (bs ++ List.replicate (128 - n) (0 : Int)).set n 128 = bs ++ [128] ++ List.replicate (127 - n) 0 := by
    rw [show 128 - n = (127 - n) + 1 by omega, List.replicate_succ, List.set_append_right _ _ (by omega)]
    simp [hn]
  have e3 : (bs ++ [128] ++ List.replicate (127 - n) (0 : Int)).take 56 = padQ bs (55 - n) := by
    unfold padQ
    rw [List.take_append, List.take_of_length_le (by simp; omega)]
    simp [hn, List.take_replicate]
    omega
  unfold endS padS
  rw [hn, e1, e2]
  unfold splice
  rw [e3, putB_length]
  have hl : (padQ bs (55 - n)).length = 56 := by rw [padQ_len, hn]; omega
  rw [← List.append_assoc, List.take_append_of_le_length (by rw [List.length_append, hl, putB_length]; omega), List.take_of_length_le (by rw [List.length_append, hl, putB_length]; omega)]
theorem putB4 (x : Int) : putB x 4 = [x / 16777216 % 256, x / 65536 % 256, x / 256 % 256, x % 256] := by simp [putB, List.range, List.range.loop]
end Go.Proofs.Ytlnboheahbfgfaa
