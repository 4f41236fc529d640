/- (*sectimecase.Tape).Spans: spans of small numbers. -/
import Derived.Deep.AppendLies
import Derived.Deep.LoopGhost
import Derived.OwnWalk
import Derived.Test.YtlfkkfdolnkjfaaKitG
import Derived.Test.YtlfkkfdolnkjfaaRUnW
namespace Go.Proofs.Ytlfkkfdolnkjfaa
open Go.RowKit Go.Shelf Go.Sort
set_option linter.unusedSimpArgs false
set_option linter.unusedVariables false

def SmallS (most : Int) (zs : List (Int × Int)) : Prop := ∀ z ∈ zs, -most ≤ z.1 ∧ z.1 ≤ most ∧ z.1 ≤ z.2 ∧ z.2 ≤ z.1 + most
def SpnRel (w : World) (b : Nat) (most : Int) (m : Nat) (G : Nat) (v i : Value) (wr : World) : Prop := ∃ (q : Nat) (A : Option Addr) (cap : Nat) (zs : List (Int × Int)), q ≤ m ∧ G = m - q ∧ i = .int .i64 ((m - q : Nat) : Int) ∧ v = .slice A zs.length cap ∧ zs.length = q ∧ (A = none → cap = 0) ∧ RowS wr w.heap.size (.slice A zs.length cap) zs ∧ SmallS most zs ∧ TapeAt wr b ∧ GB b w wr
/-- What Spans gives. -/
def SpansR (w : World) (b : Nat) (n most : Int) (e : Ending) (w' : World) : Prop := ∃ (A : Option Addr) (cap : Nat) (zs : List (Int × Int)), e = .returned (.slice A zs.length cap) ∧ (zs.length : Int) ≤ n ∧ (A = none → cap = 0) ∧ RowS w' w.heap.size (.slice A zs.length cap) zs ∧ SmallS most zs ∧ TapeAt w' b ∧ w.grownBy w' (some b)
set_option maxRecDepth 100000 in
set_option maxHeartbeats 2000000 in
theorem tspans_any (b : Nat) (n most : Int) (w : World) (h : TapeAt w b) (hn0 : 0 ≤ n) (hn1 : n ≤ 64) (hm0 : 0 ≤ most) (hm1 : most ≤ 1000000) :
    Calls Try.prog 27 #[.pointer (some ⟨b, 0, none⟩), .int .i64 n, .int .i64 most] w (SpansR w b n most) := by
  have hb := h.lt
  have HT := Lib.hid h; clear h
  have wn : IntKind.i64.wrap (n + 1) = n + 1 := IntWalk.i64_in _ (by omega)
  go_enter Try.func27, Try.ntmps27
  go_wp2_with fail
  refine (int_any _ (n + 1) _ (by (repeat' (first | (with_reducible exact HT.out) | (with_reducible refine' TapeAt.alloc ?_ _) | (with_reducible refine' TapeAt.drew ?_) | (with_reducible refine' TapeAt.drewN ?_ _) | (with_reducible refine' TapeAt.set ?_ ?_ _))) <;> (first | omega | (simp <;> omega))) (by omega) (by omega)).mono ?_
  rintro e w1 ⟨kv, rfl, kv0, kv1, ht1, hg1⟩
  have K1 : GB b w w1 := GB.tap hg1 (by (try show GB b w _); (repeat' (first | (with_reducible exact GB.refl _ _) | (with_reducible refine GB.setCell ?_ ?_ _) | (with_reducible refine GB.alloc ?_ _) | (with_reducible refine GB.drew ?_) | (with_reducible refine GB.drewN ?_ _))) <;> (first | omega | (simp <;> omega)))
  have Z1 : w.heap.size ≤ w1.heap.size := K1.size
  clear HT; have T1 := ht1.lt; have HT := Lib.hid ht1; clear ht1
  clear hg1
  obtain ⟨m, rfl⟩ : ∃ m : Nat, kv = (m : Int) := ⟨kv.toNat, by omega⟩
  have hmn : (m : Int) ≤ n := by omega
  clear kv0 kv1 wn
  go_wp2
  go_loopg [7, 8] m (fun G v i wr => SpnRel w b most m G v i wr)
  case atStart => exact ⟨0, none, 0, [], by omega, by omega, by simp, rfl, rfl, fun _ => rfl, RowS.nil, (fun z hz => by simp at hz), (by (repeat' (first | (with_reducible exact HT.out) | (with_reducible refine' TapeAt.alloc ?_ _) | (with_reducible refine' TapeAt.drew ?_) | (with_reducible refine' TapeAt.drewN ?_ _) | (with_reducible refine' TapeAt.set ?_ ?_ _))) <;> (first | omega | (simp <;> omega))), by (try show GB b w _); (repeat' (first | (with_reducible exact K1) | (with_reducible refine GB.setCell ?_ ?_ _) | (with_reducible refine GB.alloc ?_ _) | (with_reducible refine GB.drew ?_) | (with_reducible refine GB.drewN ?_ _))) <;> (first | omega | (simp <;> omega))⟩
  case round =>
    obtain ⟨q, A, cap, zs, hq, rfl, rfl, rfl, hl, hN, hrow, hsm, htr, KR⟩ := hrel
    clear HT K1
    have TR := htr.lt
    have ZR := KR.size
    have HT := Lib.hid htr; have HN := Lib.hid hN; have HS := Lib.hid hsm; clear htr hN hsm
    have hlt0 := RowS.lt hrow
    have HROW := Lib.hid hrow; clear hrow
    by_cases hlt : q < m
    · have gq : decide (0 < ((m - q : Nat) : Int)) = true := decide_eq_true (by omega)
      have gq2 : decide (0 < m - q) = true := decide_eq_true (by omega)
      have wj : IntKind.i64.wrap (((m - q : Nat) : Int) - 1) = ((m - (q + 1) : Nat) : Int) := by rw [IntWalk.i64_in _ (by omega)]; omega
      obtain ⟨mj, hmj⟩ : ∃ mj : Nat, m - q = mj := ⟨_, rfl⟩
      rw [hmj] at gq gq2 wj ⊢
      obtain ⟨mk, hmk⟩ : ∃ mk : Nat, m - (q + 1) = mk := ⟨_, rfl⟩
      rw [hmk] at wj
      have HMJ := Lib.hid (And.intro hmj hmk); clear hmj hmk
      obtain ⟨i0, hif, hz0, hz1, hz2⟩ := info_parts infoSpan
      generalize hv : (Value.slice A zs.length cap) = v at *
      have HV := Lib.hid hv; clear hv
      generalize hX : v.ownBlock = X at *
      have hXl : ∀ kk, X = some kk → w.heap.size ≤ kk ∧ kk < wr.heap.size := fun kk hk => hlt0 kk (by first | exact hk | (rw [hX]; exact hk))
      have HXX := Lib.hid hX; clear hX hlt0
      go_wp2_with fail
      refine (tspan_any _ most _ (by (repeat' (first | (with_reducible exact HT.out) | (with_reducible refine' TapeAt.alloc ?_ _) | (with_reducible refine' TapeAt.drew ?_) | (with_reducible refine' TapeAt.drewN ?_ _) | (with_reducible refine' TapeAt.set ?_ ?_ _))) <;> (first | omega | (simp <;> omega))) hm0 hm1).mono ?_
      rintro e w2 ⟨lo, hi, rfl, s0, s1, s2, s3, ht2, hg2⟩
      have HR2 := Lib.hid (HROW.out.kept hg2 (fun k hk e => by have := hXl k (by rw [← HXX.out]; exact hk); injection e with e; omega))
      have K2 : GB b w w2 := GB.tap hg2 (by (try show GB b w _); (repeat' (first | (with_reducible exact KR) | (with_reducible refine GB.setCell ?_ ?_ _) | (with_reducible refine GB.alloc ?_ _) | (with_reducible refine GB.drew ?_) | (with_reducible refine GB.drewN ?_ _))) <;> (first | omega | (simp <;> omega)))
      have Z2 : w.heap.size ≤ w2.heap.size := K2.size
      clear HT; have T2 := ht2.lt; have HT := Lib.hid ht2; clear ht2
      clear hg2 KR
      go_wp2_with (at_builtin; refine wpList_append_lies _ rfl _ _ 43 rfl w.heap.size 35 i0 (.agg #[.int .i64 0, .int .i64 0]) 2 16 Try.underlying43 hif hz0 hz1 hz2 rfl (by decide) _ zs.length (cellsS zs) rfl (RowS.alloc HR2.out _) ⟨w2.heap.size, 0, none⟩ 1 1 [.int .i64 lo, .int .i64 hi] rfl rfl (World.news_of_block (t := 35) (fr := (0, 0)) (Blk.new _ _ _)) ?c2 (by decide) ?c3 ?c4 ?c5 _ rfl ?_)
      case c2 => first | exact ⟨rfl, rfl⟩ | (intro u hu; simp at hu; rcases hu with rfl | rfl <;> rfl)
      case c3 => unfold maxLen; omega
      case c4 => omega
      case c5 => first | omega | (simp; omega)
      intro g9 cp9 w7 hown hgrow hlie hglt
      rw [HXX.out] at hgrow
      have T7 : TapeAt w7 b := (HT.out.alloc _).kept (fun kk hk => hgrow.block kk (by have := HT.out.lt; simp; omega) (fun e => by have := hXl kk e.symm; omega))
      have K7 : GB b w w7 := Past.gb (show GB b w _ from by (try show GB b w _); (repeat' (first | (with_reducible exact K2) | (with_reducible refine GB.setCell ?_ ?_ _) | (with_reducible refine GB.alloc ?_ _) | (with_reducible refine GB.drew ?_) | (with_reducible refine GB.drewN ?_ _))) <;> (first | omega | (simp <;> omega))) (Past.grownX (X := X.toList) hgrow (fun kk hk => by simp [hk])) (by intro kk hm; right; have := hXl kk (by simpa using hm); omega)
      have hL7 : RowS w7 w.heap.size (.slice (some ⟨g9, 0, none⟩) (zs ++ [(lo, hi)]).length cp9) (zs ++ [(lo, hi)]) := by
        unfold RowS
        rw [List.length_append, List.length_singleton, cellsS_snoc]; first | exact hown | (rw [hl]; exact hown)
      have hs7 : SmallS most (zs ++ [(lo, hi)]) := fun z hz => by
        rcases List.mem_append.1 hz with hz | hz
        · exact HS.out z hz
        · rw [List.mem_singleton.1 hz]; exact ⟨s0, s1, s2, s3⟩
      have L7 := Lib.hid hL7; have S7 := Lib.hid hs7; have HT7 := Lib.hid T7
      clear hown hgrow hlie hglt hL7 hs7 T7
      go_wp2
      go_roundg (m - (q + 1))
      case measure => omega
      case rel => exact ⟨q + 1, _, _, _, by omega, by omega, by have := HMJ.out.2; (try rw [this]), by simp [hl], by simp [hl], (fun h => by simp at h), L7.out, S7.out, HT7.out, K7⟩
    · obtain rfl : q = m := by omega
      have gq : decide (0 < ((q - q : Nat) : Int)) = false := decide_eq_false (by omega)
      obtain ⟨mj, hmj⟩ : ∃ mj : Nat, q - q = mj := ⟨_, rfl⟩
      rw [hmj] at gq ⊢
      have gq2 : decide (0 < mj) = false := decide_eq_false (by omega)
      clear hmj
      go_wp2
      go_ret
      exact ⟨A, cap, zs, rfl, by omega, HN.out, HROW.out, HS.out, HT.out, KR⟩
end Go.Proofs.Ytlfkkfdolnkjfaa
