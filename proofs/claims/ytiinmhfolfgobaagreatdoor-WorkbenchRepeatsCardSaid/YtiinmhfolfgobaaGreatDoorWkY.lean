/- sectimelaw43.script: a script that was made. -/
import Derived.Test.YtiinmhfolfgobaaGreatDoorJ9
import Derived.Test.YtiinmhfolfgobaaGreatDoorTape
import Derived.Test.YtiinmhfolfgobaaGreatDoorWkO
import Derived.Test.YtiinmhfolfgobaaGreatDoorJ38
namespace Go.Proofs.YtiinmhfolfgobaaGreatDoor
open Go.RowKit Go.Lib
set_option linter.unusedSimpArgs false
set_option linter.unusedVariables false

def ScRel (w : World) (b m : Nat) (G : Nat) (s at_ i : Value) (wr : World) : Prop := ∃ (q r : Nat) (a : Int) (ls : List (List UInt8)), q + r = m ∧ G = r + 0 ∧ i = .int .i64 (r : Int) ∧ at_ = .int .i64 a ∧ 0 ≤ a ∧ a ≤ 60 * q ∧ s = .string ⟨(lnsT ls).toArray⟩ ∧ ls.length ≤ q + 1 ∧ (∀ l ∈ ls, ScL l) ∧ TapeAt wr b ∧ GB b w wr
/-- What script gives. -/
def ScrR (w : World) (b : Nat) (n : Int) (e : Ending) (w' : World) : Prop := ∃ ls : List (List UInt8), e = .returned (.string ⟨(lnsT ls).toArray⟩) ∧ (ls.length : Int) ≤ n + 1 ∧ (∀ l ∈ ls, ScL l) ∧ TapeAt w' b ∧ w.grownBy w' (some b)
theorem l43lineG (ws : Array UInt8) (word : List UInt8) (hw : ws = word.toArray) (ns : List Int) (k : Nat) (hk : ns.length = k) (hs : ∀ n ∈ ns, smallI n ∧ -9223372036854775807 ≤ n) (hl : word.length + 22 * k ≤ 1000) (W : World) (gA : Nat) (h : NumsR W (some ⟨gA, 0, none⟩) k ns) :
    Calls Tryz.prog 14 #[.string ⟨ws⟩, .slice (some ⟨gA, 0, none⟩) k k] W (RB W (.string ⟨(lnW word ns ++ [10]).toArray⟩)) := by
  subst hw; exact l43line_any word _ k k ns W h hs (by rw [hk]; exact hl)
theorem scr_line (c : Cmd) (ws : Array UInt8) (hw : ws = c.word.toArray) (ns : List Int) (k : Nat) (hk : ns.length = k) (k6 : k ≤ 6) (hs : ∀ n ∈ ns, small17 n) :
    ∃ (l : List UInt8) (L : List UInt8), ScL l ∧ l ++ [10] = L ∧ L.length ≤ 201 ∧ ∀ (W : World) (gA : Nat), NumsR W (some ⟨gA, 0, none⟩) k ns → Calls Tryz.prog 14 #[.string ⟨ws⟩, .slice (some ⟨gA, 0, none⟩) k k] W (RB W (.string ⟨L.toArray⟩)) := by
  have h := scL_cmd c ns hs (by omega)
  refine ⟨_, _, h, rfl, by rw [List.length_append]; have := h.2.2.1; simp; omega, fun W gA hN => ?_⟩
  refine l43lineG ws c.word hw ns k hk (fun n hn => ⟨⟨by have := (hs n hn).1; omega, by have := (hs n hn).2; omega⟩, by have := (hs n hn).1; omega⟩) ?_ W gA hN
  have : c.word.length ≤ 7 := by cases c <;> decide
  omega
theorem lns_one (ls : List (List UInt8)) (l : List UInt8) : lnsT (ls ++ [l]) = lnsT ls ++ (l ++ [10]) := by rw [lnsT_app]; simp [lnsT]
theorem scL_snoc {ls : List (List UInt8)} {l : List UInt8} (h : ∀ x ∈ ls, ScL x) (hl : ScL l) : ∀ x ∈ ls ++ [l], ScL x := fun x hx => by
  rcases List.mem_append.1 hx with hx | hx
  · exact h x hx
  · rw [List.mem_singleton.1 hx]; exact hl
theorem scL_of {l : List UInt8} (h1 : ∀ b ∈ l, b.toNat < 128) (h2 : (10 : UInt8) ∉ l) (h3 : l.length ≤ 200) (h4 : ∀ x ∈ (wordsGo [] l).tail, x.length ≤ 18 ∧ ∃ n, atoi x = some n) : ScL l := ⟨h1, h2, h3, fun _ => h4⟩
theorem scL_note {l : List UInt8} (h1 : ∀ b ∈ l, b.toNat < 128) (h2 : (10 : UInt8) ∉ l) (h3 : l.length ≤ 200) (h4 : noteW (wordsGo [] l) = true) : ScL l := ⟨h1, h2, h3, fun h => by rw [h4] at h; cases h⟩
theorem odd_words {l : List UInt8} {ws : List (List UInt8)} (h : wordsGo [] l = ws) (h2 : (ws.tail.all fun x => decide (x.length ≤ 18) && (atoi x).isSome) = true) : ∀ x ∈ (wordsGo [] l).tail, x.length ≤ 18 ∧ ∃ n, atoi x = some n := by
  rw [h]
  intro x hx
  have := List.all_eq_true.1 h2 x hx
  rw [Bool.and_eq_true, decide_eq_true_eq] at this
  exact ⟨this.1, Option.isSome_iff_exists.1 this.2⟩
/-- The lines that are not made of numbers. -/
def oddL : List (List UInt8) := [[], [35, 32, 110, 111, 116, 101], [115, 111, 117, 114, 99, 101, 115, 32, 51, 32, 49], [110, 111, 119], [115, 97, 109, 112, 108, 101, 32, 48, 32, 49, 32, 50], [110, 111, 119, 32, 48, 48, 55], [119, 97, 105, 116, 32, 53], [32, 32, 110, 111, 119, 32, 32, 32, 57, 48, 32, 32], [100, 114, 105, 102, 116, 32, 45, 49]]
theorem odd_ok : ∀ l ∈ oddL, ScL l := by
  intro l hl
  simp only [oddL, List.mem_cons, List.mem_nil_iff, or_false] at hl
  rcases hl with rfl | rfl | rfl | rfl | rfl | rfl | rfl | rfl | rfl
  · exact scL_note (by simp) (by simp) (by decide) rfl
  · exact scL_note (by decide) (by decide) (by decide) rfl
  all_goals exact scL_of (by decide) (by decide) (by decide) (odd_words rfl (by decide))
set_option maxRecDepth 100000 in
set_option maxHeartbeats 16000000 in
theorem script_any (b : Nat) (n : Int) (w : World) (h : TapeAt w b) (n0 : 0 ≤ n) (n1 : n ≤ 12) :
    Calls Tryz.prog 9 #[.pointer (some ⟨b, 0, none⟩), .int .i64 n] w (ScrR w b n) := by
  have hb := h.lt
  have HT := Lib.hid h; clear h
  have wn : IntKind.i64.wrap (n + 1) = n + 1 := IntWalk.i64_in _ (by omega)
  go_enter Tryz.func9, Tryz.ntmps9
  go_wp2_with fail
  refine (tbool_any _ 9 _ (by (repeat' (first | (with_reducible exact HT.out) | (with_reducible refine' TapeAt.alloc ?_ _) | (with_reducible refine' TapeAt.drew ?_) | (with_reducible refine' TapeAt.drewN ?_ _) | (with_reducible refine' TapeAt.set ?_ ?_ _))) <;> (first | omega | (simp <;> omega))) (by omega) (by omega)).mono ?_
  rintro e w1 ⟨vb, rfl, ht1, hg1⟩
  have K1 : GB b w w1 := GB.tap hg1 (by (try show GB b w _); (repeat' (first | (with_reducible exact GB.refl _ _) | (with_reducible refine GB.setCell ?_ ?_ _) | (with_reducible refine GB.alloc ?_ _) | (with_reducible refine GB.drew ?_) | (with_reducible refine GB.drewN ?_ _))) <;> (first | omega | (simp <;> omega)))
  have Z1 : w.heap.size ≤ w1.heap.size := K1.size
  clear HT; have T1 := ht1.lt; have HT := Lib.hid ht1; clear ht1
  clear hg1
  go_upto_if 10 with fail
  go_cut [5, 6] (fun s a wx => a = .int .i64 0 ∧ (∃ ls : List (List UInt8), s = .string ⟨(lnsT ls).toArray⟩ ∧ ls.length ≤ 1 ∧ (∀ l ∈ ls, ScL l)) ∧ TapeAt wx b ∧ GB b w wx)
  case first =>
    cases vb with
    | true =>
      go_wp2_with fail
      go_meet
      exact ⟨rfl, ⟨[], rfl, by decide, fun l hl => by simp at hl⟩, (by (repeat' (first | (with_reducible exact HT.out) | (with_reducible refine' TapeAt.alloc ?_ _) | (with_reducible refine' TapeAt.drew ?_) | (with_reducible refine' TapeAt.drewN ?_ _) | (with_reducible refine' TapeAt.set ?_ ?_ _))) <;> (first | omega | (simp <;> omega))), (by (try show GB b w _); (repeat' (first | (with_reducible exact K1) | (with_reducible refine GB.setCell ?_ ?_ _) | (with_reducible refine GB.alloc ?_ _) | (with_reducible refine GB.drew ?_) | (with_reducible refine GB.drewN ?_ _))) <;> (first | omega | (simp <;> omega)))⟩
    | false =>
      go_wp2_with fail
      refine (int_any _ 4 _ (by (repeat' (first | (with_reducible exact HT.out) | (with_reducible refine' TapeAt.alloc ?_ _) | (with_reducible refine' TapeAt.drew ?_) | (with_reducible refine' TapeAt.drewN ?_ _) | (with_reducible refine' TapeAt.set ?_ ?_ _))) <;> (first | omega | (simp <;> omega))) (by omega) (by omega)).mono ?_
      rintro e w2 ⟨v1, rfl, v10, v11, ht2, hg2⟩
      have K2 : GB b w w2 := GB.tap hg2 (by (try show GB b w _); (repeat' (first | (with_reducible exact K1) | (with_reducible refine GB.setCell ?_ ?_ _) | (with_reducible refine GB.alloc ?_ _) | (with_reducible refine GB.drew ?_) | (with_reducible refine GB.drewN ?_ _))) <;> (first | omega | (simp <;> omega)))
      have Z2 : w.heap.size ≤ w2.heap.size := K2.size
      clear HT; have T2 := ht2.lt; have HT := Lib.hid ht2; clear ht2
      clear hg2 K1
      obtain ⟨v4, hv4⟩ : ∃ v4, 1 + v1 = v4 := ⟨_, rfl⟩
      have v40 : 0 ≤ v4 := by omega
      have v41 : v4 < 100 := by omega
      have wr1 : IntKind.i64.wrap (1 + v1) = v4 := by rw [IntWalk.i64_in _ (by omega)]; exact hv4
      clear hv4
      go_wp2_with fail
      refine (int_any _ 3 _ (by (repeat' (first | (with_reducible exact HT.out) | (with_reducible refine' TapeAt.alloc ?_ _) | (with_reducible refine' TapeAt.drew ?_) | (with_reducible refine' TapeAt.drewN ?_ _) | (with_reducible refine' TapeAt.set ?_ ?_ _))) <;> (first | omega | (simp <;> omega))) (by omega) (by omega)).mono ?_
      rintro e w3 ⟨v2, rfl, v20, v21, ht3, hg3⟩
      have K3 : GB b w w3 := GB.tap hg3 (by (try show GB b w _); (repeat' (first | (with_reducible exact K2) | (with_reducible refine GB.setCell ?_ ?_ _) | (with_reducible refine GB.alloc ?_ _) | (with_reducible refine GB.drew ?_) | (with_reducible refine GB.drewN ?_ _))) <;> (first | omega | (simp <;> omega)))
      have Z3 : w.heap.size ≤ w3.heap.size := K3.size
      clear HT; have T3 := ht3.lt; have HT := Lib.hid ht3; clear ht3
      clear hg3 K2
      have wr2 : v2.tmod 2 = v2 % 2 := Int.tmod_eq_emod_of_nonneg (by omega)
      obtain ⟨v3, hv3⟩ : ∃ v3, v2 % 2 = v3 := ⟨_, rfl⟩
      have v30 : 0 ≤ v3 := by omega
      have v31 : v3 < 2 := by omega
      rw [hv3] at wr2
      clear hv3
      obtain ⟨l9, L9, hl9, hL9, nL9, RL⟩ := scr_line .sources #[115, 111, 117, 114, 99, 101, 115] rfl [v4, v3] 2 rfl (by decide) (fun m hm => by simp only [List.mem_cons, List.mem_nil_iff, or_false] at hm; rcases hm with rfl | rfl; all_goals exact ⟨by omega, by omega⟩)
      have HSL := Lib.hid hl9; have HL9 := Lib.hid hL9; have HRL := Lib.hid RL; clear hl9 hL9 RL
      go_wp2_with fail
      refine (HRL.out _ _ (NumsR.newE [v4, v3] (by first | rfl | (simp; done)))).mono ?_
      rintro e w4 ⟨rfl, hb4⟩
      have K4 : GB b w w4 := GB.call hb4 (by (try show GB b w _); (repeat' (first | (with_reducible exact K3) | (with_reducible refine GB.setCell ?_ ?_ _) | (with_reducible refine GB.alloc ?_ _) | (with_reducible refine GB.drew ?_) | (with_reducible refine GB.drewN ?_ _))) <;> (first | omega | (simp <;> omega)))
      have Z4 : w.heap.size ≤ w4.heap.size := K4.size
      have ht4 := TapeAt.below (by (repeat' (first | (with_reducible exact HT.out) | (with_reducible refine' TapeAt.alloc ?_ _) | (with_reducible refine' TapeAt.drew ?_) | (with_reducible refine' TapeAt.drewN ?_ _) | (with_reducible refine' TapeAt.set ?_ ?_ _))) <;> (first | omega | (simp <;> omega))) hb4
      clear HT; have T4 := ht4.lt; have HT := Lib.hid ht4; clear ht4
      clear hb4 K3
      go_wp2_with fail
      go_meet
      exact ⟨rfl, ⟨[l9], by rw [← HL9.out]; simp [lnsT], Nat.le_refl 1, fun l hl => by rw [List.mem_singleton.1 hl]; exact HSL.out⟩, (by (repeat' (first | (with_reducible exact HT.out) | (with_reducible refine' TapeAt.alloc ?_ _) | (with_reducible refine' TapeAt.drew ?_) | (with_reducible refine' TapeAt.drewN ?_ _) | (with_reducible refine' TapeAt.set ?_ ?_ _))) <;> (first | omega | (simp <;> omega))), (by (try show GB b w _); (repeat' (first | (with_reducible exact K4) | (with_reducible refine GB.setCell ?_ ?_ _) | (with_reducible refine GB.alloc ?_ _) | (with_reducible refine GB.drew ?_) | (with_reducible refine GB.drewN ?_ _))) <;> (first | omega | (simp <;> omega)))⟩
  case rest =>
    obtain ⟨rfl, ⟨ls0, rfl, hl0, hs0⟩, htc, KC⟩ := hcut
    clear HT K1
    have TC := htc.lt; have ZC := KC.size
    have HT := Lib.hid htc; have HS0 := Lib.hid hs0; clear htc hs0
    go_wp2_with fail
    refine (int_any _ (n + 1) _ (by (repeat' (first | (with_reducible exact HT.out) | (with_reducible refine' TapeAt.alloc ?_ _) | (with_reducible refine' TapeAt.drew ?_) | (with_reducible refine' TapeAt.drewN ?_ _) | (with_reducible refine' TapeAt.set ?_ ?_ _))) <;> (first | omega | (simp <;> omega))) (by omega) (by omega)).mono ?_
    rintro e w2 ⟨kv, rfl, kv0, kv1, ht2, hg2⟩
    have K2 : GB b w w2 := GB.tap hg2 (by (try show GB b w _); (repeat' (first | (with_reducible exact KC) | (with_reducible refine GB.setCell ?_ ?_ _) | (with_reducible refine GB.alloc ?_ _) | (with_reducible refine GB.drew ?_) | (with_reducible refine GB.drewN ?_ _))) <;> (first | omega | (simp <;> omega)))
    have Z2 : w.heap.size ≤ w2.heap.size := K2.size
    clear HT; have T2 := ht2.lt; have HT := Lib.hid ht2; clear ht2
    clear hg2 KC
    obtain ⟨m, rfl⟩ : ∃ m : Nat, kv = (m : Int) := ⟨kv.toNat, by omega⟩
    have hmn : (m : Int) ≤ n := by omega
    clear kv0 kv1 wn
    go_wp2
    go_loopg [5, 6, 7] m (fun G s a i wr => ScRel w b m G s a i wr)
    case atStart => exact ⟨0, m, 0, ls0, by omega, by omega, by simp, rfl, by omega, by omega, rfl, by omega, HS0.out, (by (repeat' (first | (with_reducible exact HT.out) | (with_reducible refine' TapeAt.alloc ?_ _) | (with_reducible refine' TapeAt.drew ?_) | (with_reducible refine' TapeAt.drewN ?_ _) | (with_reducible refine' TapeAt.set ?_ ?_ _))) <;> (first | omega | (simp <;> omega))), by (try show GB b w _); (repeat' (first | (with_reducible exact K2) | (with_reducible refine GB.setCell ?_ ?_ _) | (with_reducible refine GB.alloc ?_ _) | (with_reducible refine GB.drew ?_) | (with_reducible refine GB.drewN ?_ _))) <;> (first | omega | (simp <;> omega))⟩
    case round =>
      obtain ⟨q, r, a, ls, hqr, hG, rfl, rfl, a0, a1, rfl, hll, hsc, htr, KR⟩ := hrel
      clear HT K2 HS0
      have TR := htr.lt
      have ZR := KR.size
      have HT := Lib.hid htr; have HSC := Lib.hid hsc; clear htr
      have hlen := lns_len hsc
      obtain ⟨tx, htx⟩ : ∃ tx, lnsT ls = tx := ⟨_, rfl⟩
      rw [htx] at hlen ⊢
      have htl : tx.length ≤ 3000 := by omega
      have HTX := Lib.hid htx
      clear htx hlen hsc
      by_cases hr : 0 < r
      · have gq : decide (0 < (r : Int)) = true := decide_eq_true (by omega)
        have gq2 : decide (0 < r) = true := decide_eq_true hr
        obtain ⟨rj, rfl⟩ : ∃ rj, r = rj + 1 := ⟨r - 1, by omega⟩
        have wj : IntKind.i64.wrap (((rj + 1 : Nat) : Int) - 1) = (rj : Int) := by rw [IntWalk.i64_in _ (by omega)]; omega
        have wj2 : IntKind.i64.wrap ((rj : Int) + 1 - 1) = (rj : Int) := by rw [IntWalk.i64_in _ (by omega)]; omega
        go_wp2_with fail
        refine (int_any _ 60 _ (by (repeat' (first | (with_reducible exact HT.out) | (with_reducible refine' TapeAt.alloc ?_ _) | (with_reducible refine' TapeAt.drew ?_) | (with_reducible refine' TapeAt.drewN ?_ _) | (with_reducible refine' TapeAt.set ?_ ?_ _))) <;> (first | omega | (simp <;> omega))) (by omega) (by omega)).mono ?_
        rintro e w3 ⟨da, rfl, da0, da1, ht3, hg3⟩
        have K3 : GB b w w3 := GB.tap hg3 (by (try show GB b w _); (repeat' (first | (with_reducible exact KR) | (with_reducible refine GB.setCell ?_ ?_ _) | (with_reducible refine GB.alloc ?_ _) | (with_reducible refine GB.drew ?_) | (with_reducible refine GB.drewN ?_ _))) <;> (first | omega | (simp <;> omega)))
        have Z3 : w.heap.size ≤ w3.heap.size := K3.size
        clear HT; have T3 := ht3.lt; have HT := Lib.hid ht3; clear ht3
        clear hg3 KR
        obtain ⟨a2, ha2⟩ : ∃ a2, a + da = a2 := ⟨_, rfl⟩
        have wa : IntKind.i64.wrap (a + da) = a2 := by rw [IntWalk.i64_in _ (by omega)]; exact ha2
        have a20 : 0 ≤ a2 := by omega
        have a21 : a2 ≤ 60 * ((q + 1 : Nat) : Int) := by omega
        have a22 : a2 ≤ 900 := by omega
        clear ha2 a0 a1 da0 da1
        go_wp2_with fail
        refine (int_any _ 10 _ (by (repeat' (first | (with_reducible exact HT.out) | (with_reducible refine' TapeAt.alloc ?_ _) | (with_reducible refine' TapeAt.drew ?_) | (with_reducible refine' TapeAt.drewN ?_ _) | (with_reducible refine' TapeAt.set ?_ ?_ _))) <;> (first | omega | (simp <;> omega))) (by omega) (by omega)).mono ?_
        rintro e w4 ⟨cc, rfl, cc0, cc1, ht4, hg4⟩
        have K4 : GB b w w4 := GB.tap hg4 (by (try show GB b w _); (repeat' (first | (with_reducible exact K3) | (with_reducible refine GB.setCell ?_ ?_ _) | (with_reducible refine GB.alloc ?_ _) | (with_reducible refine GB.drew ?_) | (with_reducible refine GB.drewN ?_ _))) <;> (first | omega | (simp <;> omega)))
        have Z4 : w.heap.size ≤ w4.heap.size := K4.size
        clear HT; have T4 := ht4.lt; have HT := Lib.hid ht4; clear ht4
        clear hg4 K3
        have hcc : cc = 0 ∨ cc = 1 ∨ cc = 2 ∨ cc = 3 ∨ cc = 4 ∨ cc = 5 ∨ cc = 6 ∨ cc = 7 ∨ cc = 8 ∨ cc = 9 := by omega
        clear cc0 cc1
        rcases hcc with rfl | rfl | rfl | rfl | rfl | rfl | rfl | rfl | rfl | rfl
        · skip
          go_wp2_with fail
          refine (int_any _ 5 _ (by (repeat' (first | (with_reducible exact HT.out) | (with_reducible refine' TapeAt.alloc ?_ _) | (with_reducible refine' TapeAt.drew ?_) | (with_reducible refine' TapeAt.drewN ?_ _) | (with_reducible refine' TapeAt.set ?_ ?_ _))) <;> (first | omega | (simp <;> omega))) (by omega) (by omega)).mono ?_
          rintro e w5 ⟨v1, rfl, v10, v11, ht5, hg5⟩
          have K5 : GB b w w5 := GB.tap hg5 (by (try show GB b w _); (repeat' (first | (with_reducible exact K4) | (with_reducible refine GB.setCell ?_ ?_ _) | (with_reducible refine GB.alloc ?_ _) | (with_reducible refine GB.drew ?_) | (with_reducible refine GB.drewN ?_ _))) <;> (first | omega | (simp <;> omega)))
          have Z5 : w.heap.size ≤ w5.heap.size := K5.size
          have b5_0 := Blk.keepG (g := w4.heap.size) hg5 (by (repeat' (first | ((with_reducible refine' Blk.newE ?_); first | rfl | (simp; done)) | (with_reducible refine' Blk.alloc ?_ _) | (with_reducible refine' Blk.drew ?_) | (with_reducible refine' Blk.drewN ?_ _) | (with_reducible refine' Blk.put ?_ ?_) | (with_reducible refine' Blk.far ?_ ?_ _) | exact rfl)) <;> (first | omega | (simp <;> omega))) (by first | omega | (simp <;> omega))
          (try simp only [List.setIfInBounds_toArray, List.set_cons_zero, List.set_cons_succ] at b5_0)
          clear HT; have T5 := ht5.lt; have HT := Lib.hid ht5; clear ht5
          clear hg5 K4
          obtain ⟨c5_0, f5_0, l5_0, e5_0, k5_0⟩ := Blk.facts b5_0
          have o5_0 := l5_0
          have h5 : v1 = 0 ∨ v1 = 1 ∨ v1 = 2 ∨ v1 = 3 ∨ v1 = 4 := by omega
          clear v10 v11
          rcases h5 with rfl | rfl | rfl | rfl | rfl
          · skip
            obtain ⟨l9, L9, hl9, hL9, nL9, RL⟩ := scr_line .drift #[100, 114, 105, 102, 116] rfl [0] 1 rfl (by decide) (fun m hm => by simp only [List.mem_cons, List.mem_nil_iff, or_false] at hm; rcases hm with rfl; all_goals exact ⟨by omega, by omega⟩)
            have HSL := Lib.hid hl9; have HL9 := Lib.hid hL9; have HRL := Lib.hid RL; clear hl9 hL9 RL
            go_wp2_with fail
            refine (HRL.out _ _ (NumsR.newE [0] (by first | rfl | (simp; done)))).mono ?_
            rintro e w6 ⟨rfl, hb6⟩
            have K6 : GB b w w6 := GB.call hb6 (by (try show GB b w _); (repeat' (first | (with_reducible exact K5) | (with_reducible refine GB.setCell ?_ ?_ _) | (with_reducible refine GB.alloc ?_ _) | (with_reducible refine GB.drew ?_) | (with_reducible refine GB.drewN ?_ _))) <;> (first | omega | (simp <;> omega)))
            have Z6 : w.heap.size ≤ w6.heap.size := K6.size
            have b5_0' := Blk.keep (g := w4.heap.size) hb6 (by (repeat' (first | (with_reducible refine' Blk.alloc ?_ _) | (with_reducible refine' Blk.drew ?_) | (with_reducible refine' Blk.drewN ?_ _) | (with_reducible refine' Blk.put ?_ ?_) | (with_reducible refine' Blk.far ?_ ?_ _) | exact b5_0 | exact rfl)) <;> (first | omega | (simp <;> omega)))
            (try simp only [List.setIfInBounds_toArray, List.set_cons_zero, List.set_cons_succ] at b5_0')
            have ht6 := TapeAt.below (by (repeat' (first | (with_reducible exact HT.out) | (with_reducible refine' TapeAt.alloc ?_ _) | (with_reducible refine' TapeAt.drew ?_) | (with_reducible refine' TapeAt.drewN ?_ _) | (with_reducible refine' TapeAt.set ?_ ?_ _))) <;> (first | omega | (simp <;> omega))) hb6
            clear HT; have T6 := ht6.lt; have HT := Lib.hid ht6; clear ht6
            clear hb6 K5
            clear b5_0 c5_0 f5_0 l5_0 e5_0 k5_0; have b5_0 := b5_0'; clear b5_0'
            obtain ⟨c5_0, f5_0, l5_0, e5_0, k5_0⟩ := Blk.facts b5_0
            go_wp2
            go_roundg rj
            case measure => omega
            case rel => exact ⟨q + 1, rj, a2, ls ++ [l9], by omega, rfl, by (try simp only [wj, wj2]), rfl, a20, a21, by rw [lns_one, HTX.out, HL9.out]; (first | rfl | (simp [ByteArray.mk_append_mk]; done)), by rw [List.length_append, List.length_singleton]; omega, scL_snoc HSC.out HSL.out, (by (repeat' (first | (with_reducible exact HT.out) | (with_reducible refine' TapeAt.alloc ?_ _) | (with_reducible refine' TapeAt.drew ?_) | (with_reducible refine' TapeAt.drewN ?_ _) | (with_reducible refine' TapeAt.set ?_ ?_ _))) <;> (first | omega | (simp <;> omega))), (by (try show GB b w _); (repeat' (first | (with_reducible exact K6) | (with_reducible refine GB.setCell ?_ ?_ _) | (with_reducible refine GB.alloc ?_ _) | (with_reducible refine GB.drew ?_) | (with_reducible refine GB.drewN ?_ _))) <;> (first | omega | (simp <;> omega)))⟩
          · skip
            obtain ⟨l9, L9, hl9, hL9, nL9, RL⟩ := scr_line .drift #[100, 114, 105, 102, 116] rfl [200] 1 rfl (by decide) (fun m hm => by simp only [List.mem_cons, List.mem_nil_iff, or_false] at hm; rcases hm with rfl; all_goals exact ⟨by omega, by omega⟩)
            have HSL := Lib.hid hl9; have HL9 := Lib.hid hL9; have HRL := Lib.hid RL; clear hl9 hL9 RL
            go_wp2_with fail
            refine (HRL.out _ _ (NumsR.newE [200] (by first | rfl | (simp; done)))).mono ?_
            rintro e w6 ⟨rfl, hb6⟩
            have K6 : GB b w w6 := GB.call hb6 (by (try show GB b w _); (repeat' (first | (with_reducible exact K5) | (with_reducible refine GB.setCell ?_ ?_ _) | (with_reducible refine GB.alloc ?_ _) | (with_reducible refine GB.drew ?_) | (with_reducible refine GB.drewN ?_ _))) <;> (first | omega | (simp <;> omega)))
            have Z6 : w.heap.size ≤ w6.heap.size := K6.size
            have b5_0' := Blk.keep (g := w4.heap.size) hb6 (by (repeat' (first | (with_reducible refine' Blk.alloc ?_ _) | (with_reducible refine' Blk.drew ?_) | (with_reducible refine' Blk.drewN ?_ _) | (with_reducible refine' Blk.put ?_ ?_) | (with_reducible refine' Blk.far ?_ ?_ _) | exact b5_0 | exact rfl)) <;> (first | omega | (simp <;> omega)))
            (try simp only [List.setIfInBounds_toArray, List.set_cons_zero, List.set_cons_succ] at b5_0')
            have ht6 := TapeAt.below (by (repeat' (first | (with_reducible exact HT.out) | (with_reducible refine' TapeAt.alloc ?_ _) | (with_reducible refine' TapeAt.drew ?_) | (with_reducible refine' TapeAt.drewN ?_ _) | (with_reducible refine' TapeAt.set ?_ ?_ _))) <;> (first | omega | (simp <;> omega))) hb6
            clear HT; have T6 := ht6.lt; have HT := Lib.hid ht6; clear ht6
            clear hb6 K5
            clear b5_0 c5_0 f5_0 l5_0 e5_0 k5_0; have b5_0 := b5_0'; clear b5_0'
            obtain ⟨c5_0, f5_0, l5_0, e5_0, k5_0⟩ := Blk.facts b5_0
            go_wp2
            go_roundg rj
            case measure => omega
            case rel => exact ⟨q + 1, rj, a2, ls ++ [l9], by omega, rfl, by (try simp only [wj, wj2]), rfl, a20, a21, by rw [lns_one, HTX.out, HL9.out]; (first | rfl | (simp [ByteArray.mk_append_mk]; done)), by rw [List.length_append, List.length_singleton]; omega, scL_snoc HSC.out HSL.out, (by (repeat' (first | (with_reducible exact HT.out) | (with_reducible refine' TapeAt.alloc ?_ _) | (with_reducible refine' TapeAt.drew ?_) | (with_reducible refine' TapeAt.drewN ?_ _) | (with_reducible refine' TapeAt.set ?_ ?_ _))) <;> (first | omega | (simp <;> omega))), (by (try show GB b w _); (repeat' (first | (with_reducible exact K6) | (with_reducible refine GB.setCell ?_ ?_ _) | (with_reducible refine GB.alloc ?_ _) | (with_reducible refine GB.drew ?_) | (with_reducible refine GB.drewN ?_ _))) <;> (first | omega | (simp <;> omega)))⟩
          · skip
            obtain ⟨l9, L9, hl9, hL9, nL9, RL⟩ := scr_line .drift #[100, 114, 105, 102, 116] rfl [50000] 1 rfl (by decide) (fun m hm => by simp only [List.mem_cons, List.mem_nil_iff, or_false] at hm; rcases hm with rfl; all_goals exact ⟨by omega, by omega⟩)
            have HSL := Lib.hid hl9; have HL9 := Lib.hid hL9; have HRL := Lib.hid RL; clear hl9 hL9 RL
            go_wp2_with fail
            refine (HRL.out _ _ (NumsR.newE [50000] (by first | rfl | (simp; done)))).mono ?_
            rintro e w6 ⟨rfl, hb6⟩
            have K6 : GB b w w6 := GB.call hb6 (by (try show GB b w _); (repeat' (first | (with_reducible exact K5) | (with_reducible refine GB.setCell ?_ ?_ _) | (with_reducible refine GB.alloc ?_ _) | (with_reducible refine GB.drew ?_) | (with_reducible refine GB.drewN ?_ _))) <;> (first | omega | (simp <;> omega)))
            have Z6 : w.heap.size ≤ w6.heap.size := K6.size
            have b5_0' := Blk.keep (g := w4.heap.size) hb6 (by (repeat' (first | (with_reducible refine' Blk.alloc ?_ _) | (with_reducible refine' Blk.drew ?_) | (with_reducible refine' Blk.drewN ?_ _) | (with_reducible refine' Blk.put ?_ ?_) | (with_reducible refine' Blk.far ?_ ?_ _) | exact b5_0 | exact rfl)) <;> (first | omega | (simp <;> omega)))
            (try simp only [List.setIfInBounds_toArray, List.set_cons_zero, List.set_cons_succ] at b5_0')
            have ht6 := TapeAt.below (by (repeat' (first | (with_reducible exact HT.out) | (with_reducible refine' TapeAt.alloc ?_ _) | (with_reducible refine' TapeAt.drew ?_) | (with_reducible refine' TapeAt.drewN ?_ _) | (with_reducible refine' TapeAt.set ?_ ?_ _))) <;> (first | omega | (simp <;> omega))) hb6
            clear HT; have T6 := ht6.lt; have HT := Lib.hid ht6; clear ht6
            clear hb6 K5
            clear b5_0 c5_0 f5_0 l5_0 e5_0 k5_0; have b5_0 := b5_0'; clear b5_0'
            obtain ⟨c5_0, f5_0, l5_0, e5_0, k5_0⟩ := Blk.facts b5_0
            go_wp2
            go_roundg rj
            case measure => omega
            case rel => exact ⟨q + 1, rj, a2, ls ++ [l9], by omega, rfl, by (try simp only [wj, wj2]), rfl, a20, a21, by rw [lns_one, HTX.out, HL9.out]; (first | rfl | (simp [ByteArray.mk_append_mk]; done)), by rw [List.length_append, List.length_singleton]; omega, scL_snoc HSC.out HSL.out, (by (repeat' (first | (with_reducible exact HT.out) | (with_reducible refine' TapeAt.alloc ?_ _) | (with_reducible refine' TapeAt.drew ?_) | (with_reducible refine' TapeAt.drewN ?_ _) | (with_reducible refine' TapeAt.set ?_ ?_ _))) <;> (first | omega | (simp <;> omega))), (by (try show GB b w _); (repeat' (first | (with_reducible exact K6) | (with_reducible refine GB.setCell ?_ ?_ _) | (with_reducible refine GB.alloc ?_ _) | (with_reducible refine GB.drew ?_) | (with_reducible refine GB.drewN ?_ _))) <;> (first | omega | (simp <;> omega)))⟩
          · skip
            obtain ⟨l9, L9, hl9, hL9, nL9, RL⟩ := scr_line .drift #[100, 114, 105, 102, 116] rfl [1000000] 1 rfl (by decide) (fun m hm => by simp only [List.mem_cons, List.mem_nil_iff, or_false] at hm; rcases hm with rfl; all_goals exact ⟨by omega, by omega⟩)
            have HSL := Lib.hid hl9; have HL9 := Lib.hid hL9; have HRL := Lib.hid RL; clear hl9 hL9 RL
            go_wp2_with fail
            refine (HRL.out _ _ (NumsR.newE [1000000] (by first | rfl | (simp; done)))).mono ?_
            rintro e w6 ⟨rfl, hb6⟩
            have K6 : GB b w w6 := GB.call hb6 (by (try show GB b w _); (repeat' (first | (with_reducible exact K5) | (with_reducible refine GB.setCell ?_ ?_ _) | (with_reducible refine GB.alloc ?_ _) | (with_reducible refine GB.drew ?_) | (with_reducible refine GB.drewN ?_ _))) <;> (first | omega | (simp <;> omega)))
            have Z6 : w.heap.size ≤ w6.heap.size := K6.size
            have b5_0' := Blk.keep (g := w4.heap.size) hb6 (by (repeat' (first | (with_reducible refine' Blk.alloc ?_ _) | (with_reducible refine' Blk.drew ?_) | (with_reducible refine' Blk.drewN ?_ _) | (with_reducible refine' Blk.put ?_ ?_) | (with_reducible refine' Blk.far ?_ ?_ _) | exact b5_0 | exact rfl)) <;> (first | omega | (simp <;> omega)))
            (try simp only [List.setIfInBounds_toArray, List.set_cons_zero, List.set_cons_succ] at b5_0')
            have ht6 := TapeAt.below (by (repeat' (first | (with_reducible exact HT.out) | (with_reducible refine' TapeAt.alloc ?_ _) | (with_reducible refine' TapeAt.drew ?_) | (with_reducible refine' TapeAt.drewN ?_ _) | (with_reducible refine' TapeAt.set ?_ ?_ _))) <;> (first | omega | (simp <;> omega))) hb6
            clear HT; have T6 := ht6.lt; have HT := Lib.hid ht6; clear ht6
            clear hb6 K5
            clear b5_0 c5_0 f5_0 l5_0 e5_0 k5_0; have b5_0 := b5_0'; clear b5_0'
            obtain ⟨c5_0, f5_0, l5_0, e5_0, k5_0⟩ := Blk.facts b5_0
            go_wp2
            go_roundg rj
            case measure => omega
            case rel => exact ⟨q + 1, rj, a2, ls ++ [l9], by omega, rfl, by (try simp only [wj, wj2]), rfl, a20, a21, by rw [lns_one, HTX.out, HL9.out]; (first | rfl | (simp [ByteArray.mk_append_mk]; done)), by rw [List.length_append, List.length_singleton]; omega, scL_snoc HSC.out HSL.out, (by (repeat' (first | (with_reducible exact HT.out) | (with_reducible refine' TapeAt.alloc ?_ _) | (with_reducible refine' TapeAt.drew ?_) | (with_reducible refine' TapeAt.drewN ?_ _) | (with_reducible refine' TapeAt.set ?_ ?_ _))) <;> (first | omega | (simp <;> omega))), (by (try show GB b w _); (repeat' (first | (with_reducible exact K6) | (with_reducible refine GB.setCell ?_ ?_ _) | (with_reducible refine GB.alloc ?_ _) | (with_reducible refine GB.drew ?_) | (with_reducible refine GB.drewN ?_ _))) <;> (first | omega | (simp <;> omega)))⟩
          · skip
            obtain ⟨l9, L9, hl9, hL9, nL9, RL⟩ := scr_line .drift #[100, 114, 105, 102, 116] rfl [1000001] 1 rfl (by decide) (fun m hm => by simp only [List.mem_cons, List.mem_nil_iff, or_false] at hm; rcases hm with rfl; all_goals exact ⟨by omega, by omega⟩)
            have HSL := Lib.hid hl9; have HL9 := Lib.hid hL9; have HRL := Lib.hid RL; clear hl9 hL9 RL
            go_wp2_with fail
            refine (HRL.out _ _ (NumsR.newE [1000001] (by first | rfl | (simp; done)))).mono ?_
            rintro e w6 ⟨rfl, hb6⟩
            have K6 : GB b w w6 := GB.call hb6 (by (try show GB b w _); (repeat' (first | (with_reducible exact K5) | (with_reducible refine GB.setCell ?_ ?_ _) | (with_reducible refine GB.alloc ?_ _) | (with_reducible refine GB.drew ?_) | (with_reducible refine GB.drewN ?_ _))) <;> (first | omega | (simp <;> omega)))
            have Z6 : w.heap.size ≤ w6.heap.size := K6.size
            have b5_0' := Blk.keep (g := w4.heap.size) hb6 (by (repeat' (first | (with_reducible refine' Blk.alloc ?_ _) | (with_reducible refine' Blk.drew ?_) | (with_reducible refine' Blk.drewN ?_ _) | (with_reducible refine' Blk.put ?_ ?_) | (with_reducible refine' Blk.far ?_ ?_ _) | exact b5_0 | exact rfl)) <;> (first | omega | (simp <;> omega)))
            (try simp only [List.setIfInBounds_toArray, List.set_cons_zero, List.set_cons_succ] at b5_0')
            have ht6 := TapeAt.below (by (repeat' (first | (with_reducible exact HT.out) | (with_reducible refine' TapeAt.alloc ?_ _) | (with_reducible refine' TapeAt.drew ?_) | (with_reducible refine' TapeAt.drewN ?_ _) | (with_reducible refine' TapeAt.set ?_ ?_ _))) <;> (first | omega | (simp <;> omega))) hb6
            clear HT; have T6 := ht6.lt; have HT := Lib.hid ht6; clear ht6
            clear hb6 K5
            clear b5_0 c5_0 f5_0 l5_0 e5_0 k5_0; have b5_0 := b5_0'; clear b5_0'
            obtain ⟨c5_0, f5_0, l5_0, e5_0, k5_0⟩ := Blk.facts b5_0
            go_wp2
            go_roundg rj
            case measure => omega
            case rel => exact ⟨q + 1, rj, a2, ls ++ [l9], by omega, rfl, by (try simp only [wj, wj2]), rfl, a20, a21, by rw [lns_one, HTX.out, HL9.out]; (first | rfl | (simp [ByteArray.mk_append_mk]; done)), by rw [List.length_append, List.length_singleton]; omega, scL_snoc HSC.out HSL.out, (by (repeat' (first | (with_reducible exact HT.out) | (with_reducible refine' TapeAt.alloc ?_ _) | (with_reducible refine' TapeAt.drew ?_) | (with_reducible refine' TapeAt.drewN ?_ _) | (with_reducible refine' TapeAt.set ?_ ?_ _))) <;> (first | omega | (simp <;> omega))), (by (try show GB b w _); (repeat' (first | (with_reducible exact K6) | (with_reducible refine GB.setCell ?_ ?_ _) | (with_reducible refine GB.alloc ?_ _) | (with_reducible refine GB.drew ?_) | (with_reducible refine GB.drewN ?_ _))) <;> (first | omega | (simp <;> omega)))⟩
        · skip
          go_wp2_with fail
          refine (int_any _ 3 _ (by (repeat' (first | (with_reducible exact HT.out) | (with_reducible refine' TapeAt.alloc ?_ _) | (with_reducible refine' TapeAt.drew ?_) | (with_reducible refine' TapeAt.drewN ?_ _) | (with_reducible refine' TapeAt.set ?_ ?_ _))) <;> (first | omega | (simp <;> omega))) (by omega) (by omega)).mono ?_
          rintro e w5 ⟨v1, rfl, v10, v11, ht5, hg5⟩
          have K5 : GB b w w5 := GB.tap hg5 (by (try show GB b w _); (repeat' (first | (with_reducible exact K4) | (with_reducible refine GB.setCell ?_ ?_ _) | (with_reducible refine GB.alloc ?_ _) | (with_reducible refine GB.drew ?_) | (with_reducible refine GB.drewN ?_ _))) <;> (first | omega | (simp <;> omega)))
          have Z5 : w.heap.size ≤ w5.heap.size := K5.size
          clear HT; have T5 := ht5.lt; have HT := Lib.hid ht5; clear ht5
          clear hg5 K4
          obtain ⟨s0, hs0⟩ : ∃ s0, a2 + 1000 = s0 := ⟨_, rfl⟩
          have ws0 : IntKind.i64.wrap (a2 + 1000) = s0 := by rw [IntWalk.i64_in _ (by omega)]; exact hs0
          have s0b : -10 ≤ s0 ∧ s0 ≤ 2000 := by omega
          clear hs0
          go_wp2_with fail
          refine (int_any _ 50 _ (by (repeat' (first | (with_reducible exact HT.out) | (with_reducible refine' TapeAt.alloc ?_ _) | (with_reducible refine' TapeAt.drew ?_) | (with_reducible refine' TapeAt.drewN ?_ _) | (with_reducible refine' TapeAt.set ?_ ?_ _))) <;> (first | omega | (simp <;> omega))) (by omega) (by omega)).mono ?_
          rintro e w6 ⟨v2, rfl, v20, v21, ht6, hg6⟩
          have K6 : GB b w w6 := GB.tap hg6 (by (try show GB b w _); (repeat' (first | (with_reducible exact K5) | (with_reducible refine GB.setCell ?_ ?_ _) | (with_reducible refine GB.alloc ?_ _) | (with_reducible refine GB.drew ?_) | (with_reducible refine GB.drewN ?_ _))) <;> (first | omega | (simp <;> omega)))
          have Z6 : w.heap.size ≤ w6.heap.size := K6.size
          clear HT; have T6 := ht6.lt; have HT := Lib.hid ht6; clear ht6
          clear hg6 K5
          obtain ⟨s1, hs1⟩ : ∃ s1, s0 + v2 = s1 := ⟨_, rfl⟩
          have ws1 : IntKind.i64.wrap (s0 + v2) = s1 := by rw [IntWalk.i64_in _ (by omega)]; exact hs1
          have s1b : -10 ≤ s1 ∧ s1 ≤ 4000 := by omega
          clear hs1
          go_wp2_with fail
          refine (int_any _ 60 _ (by (repeat' (first | (with_reducible exact HT.out) | (with_reducible refine' TapeAt.alloc ?_ _) | (with_reducible refine' TapeAt.drew ?_) | (with_reducible refine' TapeAt.drewN ?_ _) | (with_reducible refine' TapeAt.set ?_ ?_ _))) <;> (first | omega | (simp <;> omega))) (by omega) (by omega)).mono ?_
          rintro e w7 ⟨v3, rfl, v30, v31, ht7, hg7⟩
          have K7 : GB b w w7 := GB.tap hg7 (by (try show GB b w _); (repeat' (first | (with_reducible exact K6) | (with_reducible refine GB.setCell ?_ ?_ _) | (with_reducible refine GB.alloc ?_ _) | (with_reducible refine GB.drew ?_) | (with_reducible refine GB.drewN ?_ _))) <;> (first | omega | (simp <;> omega)))
          have Z7 : w.heap.size ≤ w7.heap.size := K7.size
          clear HT; have T7 := ht7.lt; have HT := Lib.hid ht7; clear ht7
          clear hg7 K6
          obtain ⟨s2, hs2⟩ : ∃ s2, s0 + v3 = s2 := ⟨_, rfl⟩
          have ws2 : IntKind.i64.wrap (s0 + v3) = s2 := by rw [IntWalk.i64_in _ (by omega)]; exact hs2
          have s2b : -10 ≤ s2 ∧ s2 ≤ 4000 := by omega
          clear hs2
          go_wp2_with fail
          refine (int_any _ 90 _ (by (repeat' (first | (with_reducible exact HT.out) | (with_reducible refine' TapeAt.alloc ?_ _) | (with_reducible refine' TapeAt.drew ?_) | (with_reducible refine' TapeAt.drewN ?_ _) | (with_reducible refine' TapeAt.set ?_ ?_ _))) <;> (first | omega | (simp <;> omega))) (by omega) (by omega)).mono ?_
          rintro e w8 ⟨v4, rfl, v40, v41, ht8, hg8⟩
          have K8 : GB b w w8 := GB.tap hg8 (by (try show GB b w _); (repeat' (first | (with_reducible exact K7) | (with_reducible refine GB.setCell ?_ ?_ _) | (with_reducible refine GB.alloc ?_ _) | (with_reducible refine GB.drew ?_) | (with_reducible refine GB.drewN ?_ _))) <;> (first | omega | (simp <;> omega)))
          have Z8 : w.heap.size ≤ w8.heap.size := K8.size
          clear HT; have T8 := ht8.lt; have HT := Lib.hid ht8; clear ht8
          clear hg8 K7
          obtain ⟨s3, hs3⟩ : ∃ s3, a2 + v4 = s3 := ⟨_, rfl⟩
          have ws3 : IntKind.i64.wrap (a2 + v4) = s3 := by rw [IntWalk.i64_in _ (by omega)]; exact hs3
          have s3b : -10 ≤ s3 ∧ s3 ≤ 4000 := by omega
          clear hs3
          go_wp2_with fail
          refine (int_any _ 40 _ (by (repeat' (first | (with_reducible exact HT.out) | (with_reducible refine' TapeAt.alloc ?_ _) | (with_reducible refine' TapeAt.drew ?_) | (with_reducible refine' TapeAt.drewN ?_ _) | (with_reducible refine' TapeAt.set ?_ ?_ _))) <;> (first | omega | (simp <;> omega))) (by omega) (by omega)).mono ?_
          rintro e w9 ⟨v5, rfl, v50, v51, ht9, hg9⟩
          have K9 : GB b w w9 := GB.tap hg9 (by (try show GB b w _); (repeat' (first | (with_reducible exact K8) | (with_reducible refine GB.setCell ?_ ?_ _) | (with_reducible refine GB.alloc ?_ _) | (with_reducible refine GB.drew ?_) | (with_reducible refine GB.drewN ?_ _))) <;> (first | omega | (simp <;> omega)))
          have Z9 : w.heap.size ≤ w9.heap.size := K9.size
          clear HT; have T9 := ht9.lt; have HT := Lib.hid ht9; clear ht9
          clear hg9 K8
          obtain ⟨l9, L9, hl9, hL9, nL9, RL⟩ := scr_line .sample #[115, 97, 109, 112, 108, 101] rfl [v1, a2, s1, s2, s3, v5] 6 rfl (by decide) (fun m hm => by simp only [List.mem_cons, List.mem_nil_iff, or_false] at hm; rcases hm with rfl | rfl | rfl | rfl | rfl | rfl; all_goals exact ⟨by omega, by omega⟩)
          have HSL := Lib.hid hl9; have HL9 := Lib.hid hL9; have HRL := Lib.hid RL; clear hl9 hL9 RL
          go_wp2_with fail
          refine (HRL.out _ _ (NumsR.newE [v1, a2, s1, s2, s3, v5] (by first | rfl | (simp; done)))).mono ?_
          rintro e w10 ⟨rfl, hb10⟩
          have K10 : GB b w w10 := GB.call hb10 (by (try show GB b w _); (repeat' (first | (with_reducible exact K9) | (with_reducible refine GB.setCell ?_ ?_ _) | (with_reducible refine GB.alloc ?_ _) | (with_reducible refine GB.drew ?_) | (with_reducible refine GB.drewN ?_ _))) <;> (first | omega | (simp <;> omega)))
          have Z10 : w.heap.size ≤ w10.heap.size := K10.size
          have ht10 := TapeAt.below (by (repeat' (first | (with_reducible exact HT.out) | (with_reducible refine' TapeAt.alloc ?_ _) | (with_reducible refine' TapeAt.drew ?_) | (with_reducible refine' TapeAt.drewN ?_ _) | (with_reducible refine' TapeAt.set ?_ ?_ _))) <;> (first | omega | (simp <;> omega))) hb10
          clear HT; have T10 := ht10.lt; have HT := Lib.hid ht10; clear ht10
          clear hb10 K9
          go_wp2
          go_roundg rj
          case measure => omega
          case rel => exact ⟨q + 1, rj, a2, ls ++ [l9], by omega, rfl, by (try simp only [wj, wj2]), rfl, a20, a21, by rw [lns_one, HTX.out, HL9.out]; (first | rfl | (simp [ByteArray.mk_append_mk]; done)), by rw [List.length_append, List.length_singleton]; omega, scL_snoc HSC.out HSL.out, (by (repeat' (first | (with_reducible exact HT.out) | (with_reducible refine' TapeAt.alloc ?_ _) | (with_reducible refine' TapeAt.drew ?_) | (with_reducible refine' TapeAt.drewN ?_ _) | (with_reducible refine' TapeAt.set ?_ ?_ _))) <;> (first | omega | (simp <;> omega))), (by (try show GB b w _); (repeat' (first | (with_reducible exact K10) | (with_reducible refine GB.setCell ?_ ?_ _) | (with_reducible refine GB.alloc ?_ _) | (with_reducible refine GB.drew ?_) | (with_reducible refine GB.drewN ?_ _))) <;> (first | omega | (simp <;> omega)))⟩
        · skip
          go_wp2_with fail
          refine (int_any _ 3 _ (by (repeat' (first | (with_reducible exact HT.out) | (with_reducible refine' TapeAt.alloc ?_ _) | (with_reducible refine' TapeAt.drew ?_) | (with_reducible refine' TapeAt.drewN ?_ _) | (with_reducible refine' TapeAt.set ?_ ?_ _))) <;> (first | omega | (simp <;> omega))) (by omega) (by omega)).mono ?_
          rintro e w5 ⟨v1, rfl, v10, v11, ht5, hg5⟩
          have K5 : GB b w w5 := GB.tap hg5 (by (try show GB b w _); (repeat' (first | (with_reducible exact K4) | (with_reducible refine GB.setCell ?_ ?_ _) | (with_reducible refine GB.alloc ?_ _) | (with_reducible refine GB.drew ?_) | (with_reducible refine GB.drewN ?_ _))) <;> (first | omega | (simp <;> omega)))
          have Z5 : w.heap.size ≤ w5.heap.size := K5.size
          clear HT; have T5 := ht5.lt; have HT := Lib.hid ht5; clear ht5
          clear hg5 K4
          obtain ⟨s0, hs0⟩ : ∃ s0, a2 + 1000 = s0 := ⟨_, rfl⟩
          have ws0 : IntKind.i64.wrap (a2 + 1000) = s0 := by rw [IntWalk.i64_in _ (by omega)]; exact hs0
          have s0b : -10 ≤ s0 ∧ s0 ≤ 2000 := by omega
          clear hs0
          go_wp2_with fail
          refine (int_any _ 50 _ (by (repeat' (first | (with_reducible exact HT.out) | (with_reducible refine' TapeAt.alloc ?_ _) | (with_reducible refine' TapeAt.drew ?_) | (with_reducible refine' TapeAt.drewN ?_ _) | (with_reducible refine' TapeAt.set ?_ ?_ _))) <;> (first | omega | (simp <;> omega))) (by omega) (by omega)).mono ?_
          rintro e w6 ⟨v2, rfl, v20, v21, ht6, hg6⟩
          have K6 : GB b w w6 := GB.tap hg6 (by (try show GB b w _); (repeat' (first | (with_reducible exact K5) | (with_reducible refine GB.setCell ?_ ?_ _) | (with_reducible refine GB.alloc ?_ _) | (with_reducible refine GB.drew ?_) | (with_reducible refine GB.drewN ?_ _))) <;> (first | omega | (simp <;> omega)))
          have Z6 : w.heap.size ≤ w6.heap.size := K6.size
          clear HT; have T6 := ht6.lt; have HT := Lib.hid ht6; clear ht6
          clear hg6 K5
          obtain ⟨s1, hs1⟩ : ∃ s1, s0 + v2 = s1 := ⟨_, rfl⟩
          have ws1 : IntKind.i64.wrap (s0 + v2) = s1 := by rw [IntWalk.i64_in _ (by omega)]; exact hs1
          have s1b : -10 ≤ s1 ∧ s1 ≤ 4000 := by omega
          clear hs1
          go_wp2_with fail
          refine (int_any _ 60 _ (by (repeat' (first | (with_reducible exact HT.out) | (with_reducible refine' TapeAt.alloc ?_ _) | (with_reducible refine' TapeAt.drew ?_) | (with_reducible refine' TapeAt.drewN ?_ _) | (with_reducible refine' TapeAt.set ?_ ?_ _))) <;> (first | omega | (simp <;> omega))) (by omega) (by omega)).mono ?_
          rintro e w7 ⟨v3, rfl, v30, v31, ht7, hg7⟩
          have K7 : GB b w w7 := GB.tap hg7 (by (try show GB b w _); (repeat' (first | (with_reducible exact K6) | (with_reducible refine GB.setCell ?_ ?_ _) | (with_reducible refine GB.alloc ?_ _) | (with_reducible refine GB.drew ?_) | (with_reducible refine GB.drewN ?_ _))) <;> (first | omega | (simp <;> omega)))
          have Z7 : w.heap.size ≤ w7.heap.size := K7.size
          clear HT; have T7 := ht7.lt; have HT := Lib.hid ht7; clear ht7
          clear hg7 K6
          obtain ⟨s2, hs2⟩ : ∃ s2, s0 + v3 = s2 := ⟨_, rfl⟩
          have ws2 : IntKind.i64.wrap (s0 + v3) = s2 := by rw [IntWalk.i64_in _ (by omega)]; exact hs2
          have s2b : -10 ≤ s2 ∧ s2 ≤ 4000 := by omega
          clear hs2
          go_wp2_with fail
          refine (int_any _ 90 _ (by (repeat' (first | (with_reducible exact HT.out) | (with_reducible refine' TapeAt.alloc ?_ _) | (with_reducible refine' TapeAt.drew ?_) | (with_reducible refine' TapeAt.drewN ?_ _) | (with_reducible refine' TapeAt.set ?_ ?_ _))) <;> (first | omega | (simp <;> omega))) (by omega) (by omega)).mono ?_
          rintro e w8 ⟨v4, rfl, v40, v41, ht8, hg8⟩
          have K8 : GB b w w8 := GB.tap hg8 (by (try show GB b w _); (repeat' (first | (with_reducible exact K7) | (with_reducible refine GB.setCell ?_ ?_ _) | (with_reducible refine GB.alloc ?_ _) | (with_reducible refine GB.drew ?_) | (with_reducible refine GB.drewN ?_ _))) <;> (first | omega | (simp <;> omega)))
          have Z8 : w.heap.size ≤ w8.heap.size := K8.size
          clear HT; have T8 := ht8.lt; have HT := Lib.hid ht8; clear ht8
          clear hg8 K7
          obtain ⟨s3, hs3⟩ : ∃ s3, a2 + v4 = s3 := ⟨_, rfl⟩
          have ws3 : IntKind.i64.wrap (a2 + v4) = s3 := by rw [IntWalk.i64_in _ (by omega)]; exact hs3
          have s3b : -10 ≤ s3 ∧ s3 ≤ 4000 := by omega
          clear hs3
          go_wp2_with fail
          refine (int_any _ 40 _ (by (repeat' (first | (with_reducible exact HT.out) | (with_reducible refine' TapeAt.alloc ?_ _) | (with_reducible refine' TapeAt.drew ?_) | (with_reducible refine' TapeAt.drewN ?_ _) | (with_reducible refine' TapeAt.set ?_ ?_ _))) <;> (first | omega | (simp <;> omega))) (by omega) (by omega)).mono ?_
          rintro e w9 ⟨v5, rfl, v50, v51, ht9, hg9⟩
          have K9 : GB b w w9 := GB.tap hg9 (by (try show GB b w _); (repeat' (first | (with_reducible exact K8) | (with_reducible refine GB.setCell ?_ ?_ _) | (with_reducible refine GB.alloc ?_ _) | (with_reducible refine GB.drew ?_) | (with_reducible refine GB.drewN ?_ _))) <;> (first | omega | (simp <;> omega)))
          have Z9 : w.heap.size ≤ w9.heap.size := K9.size
          clear HT; have T9 := ht9.lt; have HT := Lib.hid ht9; clear ht9
          clear hg9 K8
          obtain ⟨l9, L9, hl9, hL9, nL9, RL⟩ := scr_line .sample #[115, 97, 109, 112, 108, 101] rfl [v1, a2, s1, s2, s3, v5] 6 rfl (by decide) (fun m hm => by simp only [List.mem_cons, List.mem_nil_iff, or_false] at hm; rcases hm with rfl | rfl | rfl | rfl | rfl | rfl; all_goals exact ⟨by omega, by omega⟩)
          have HSL := Lib.hid hl9; have HL9 := Lib.hid hL9; have HRL := Lib.hid RL; clear hl9 hL9 RL
          go_wp2_with fail
          refine (HRL.out _ _ (NumsR.newE [v1, a2, s1, s2, s3, v5] (by first | rfl | (simp; done)))).mono ?_
          rintro e w10 ⟨rfl, hb10⟩
          have K10 : GB b w w10 := GB.call hb10 (by (try show GB b w _); (repeat' (first | (with_reducible exact K9) | (with_reducible refine GB.setCell ?_ ?_ _) | (with_reducible refine GB.alloc ?_ _) | (with_reducible refine GB.drew ?_) | (with_reducible refine GB.drewN ?_ _))) <;> (first | omega | (simp <;> omega)))
          have Z10 : w.heap.size ≤ w10.heap.size := K10.size
          have ht10 := TapeAt.below (by (repeat' (first | (with_reducible exact HT.out) | (with_reducible refine' TapeAt.alloc ?_ _) | (with_reducible refine' TapeAt.drew ?_) | (with_reducible refine' TapeAt.drewN ?_ _) | (with_reducible refine' TapeAt.set ?_ ?_ _))) <;> (first | omega | (simp <;> omega))) hb10
          clear HT; have T10 := ht10.lt; have HT := Lib.hid ht10; clear ht10
          clear hb10 K9
          go_wp2
          go_roundg rj
          case measure => omega
          case rel => exact ⟨q + 1, rj, a2, ls ++ [l9], by omega, rfl, by (try simp only [wj, wj2]), rfl, a20, a21, by rw [lns_one, HTX.out, HL9.out]; (first | rfl | (simp [ByteArray.mk_append_mk]; done)), by rw [List.length_append, List.length_singleton]; omega, scL_snoc HSC.out HSL.out, (by (repeat' (first | (with_reducible exact HT.out) | (with_reducible refine' TapeAt.alloc ?_ _) | (with_reducible refine' TapeAt.drew ?_) | (with_reducible refine' TapeAt.drewN ?_ _) | (with_reducible refine' TapeAt.set ?_ ?_ _))) <;> (first | omega | (simp <;> omega))), (by (try show GB b w _); (repeat' (first | (with_reducible exact K10) | (with_reducible refine GB.setCell ?_ ?_ _) | (with_reducible refine GB.alloc ?_ _) | (with_reducible refine GB.drew ?_) | (with_reducible refine GB.drewN ?_ _))) <;> (first | omega | (simp <;> omega)))⟩
        · skip
          go_wp2_with fail
          refine (int_any _ 3 _ (by (repeat' (first | (with_reducible exact HT.out) | (with_reducible refine' TapeAt.alloc ?_ _) | (with_reducible refine' TapeAt.drew ?_) | (with_reducible refine' TapeAt.drewN ?_ _) | (with_reducible refine' TapeAt.set ?_ ?_ _))) <;> (first | omega | (simp <;> omega))) (by omega) (by omega)).mono ?_
          rintro e w5 ⟨v1, rfl, v10, v11, ht5, hg5⟩
          have K5 : GB b w w5 := GB.tap hg5 (by (try show GB b w _); (repeat' (first | (with_reducible exact K4) | (with_reducible refine GB.setCell ?_ ?_ _) | (with_reducible refine GB.alloc ?_ _) | (with_reducible refine GB.drew ?_) | (with_reducible refine GB.drewN ?_ _))) <;> (first | omega | (simp <;> omega)))
          have Z5 : w.heap.size ≤ w5.heap.size := K5.size
          clear HT; have T5 := ht5.lt; have HT := Lib.hid ht5; clear ht5
          clear hg5 K4
          obtain ⟨s0, hs0⟩ : ∃ s0, a2 + 1000 = s0 := ⟨_, rfl⟩
          have ws0 : IntKind.i64.wrap (a2 + 1000) = s0 := by rw [IntWalk.i64_in _ (by omega)]; exact hs0
          have s0b : -10 ≤ s0 ∧ s0 ≤ 2000 := by omega
          clear hs0
          go_wp2_with fail
          refine (int_any _ 50 _ (by (repeat' (first | (with_reducible exact HT.out) | (with_reducible refine' TapeAt.alloc ?_ _) | (with_reducible refine' TapeAt.drew ?_) | (with_reducible refine' TapeAt.drewN ?_ _) | (with_reducible refine' TapeAt.set ?_ ?_ _))) <;> (first | omega | (simp <;> omega))) (by omega) (by omega)).mono ?_
          rintro e w6 ⟨v2, rfl, v20, v21, ht6, hg6⟩
          have K6 : GB b w w6 := GB.tap hg6 (by (try show GB b w _); (repeat' (first | (with_reducible exact K5) | (with_reducible refine GB.setCell ?_ ?_ _) | (with_reducible refine GB.alloc ?_ _) | (with_reducible refine GB.drew ?_) | (with_reducible refine GB.drewN ?_ _))) <;> (first | omega | (simp <;> omega)))
          have Z6 : w.heap.size ≤ w6.heap.size := K6.size
          clear HT; have T6 := ht6.lt; have HT := Lib.hid ht6; clear ht6
          clear hg6 K5
          obtain ⟨s1, hs1⟩ : ∃ s1, s0 + v2 = s1 := ⟨_, rfl⟩
          have ws1 : IntKind.i64.wrap (s0 + v2) = s1 := by rw [IntWalk.i64_in _ (by omega)]; exact hs1
          have s1b : -10 ≤ s1 ∧ s1 ≤ 4000 := by omega
          clear hs1
          go_wp2_with fail
          refine (int_any _ 60 _ (by (repeat' (first | (with_reducible exact HT.out) | (with_reducible refine' TapeAt.alloc ?_ _) | (with_reducible refine' TapeAt.drew ?_) | (with_reducible refine' TapeAt.drewN ?_ _) | (with_reducible refine' TapeAt.set ?_ ?_ _))) <;> (first | omega | (simp <;> omega))) (by omega) (by omega)).mono ?_
          rintro e w7 ⟨v3, rfl, v30, v31, ht7, hg7⟩
          have K7 : GB b w w7 := GB.tap hg7 (by (try show GB b w _); (repeat' (first | (with_reducible exact K6) | (with_reducible refine GB.setCell ?_ ?_ _) | (with_reducible refine GB.alloc ?_ _) | (with_reducible refine GB.drew ?_) | (with_reducible refine GB.drewN ?_ _))) <;> (first | omega | (simp <;> omega)))
          have Z7 : w.heap.size ≤ w7.heap.size := K7.size
          clear HT; have T7 := ht7.lt; have HT := Lib.hid ht7; clear ht7
          clear hg7 K6
          obtain ⟨s2, hs2⟩ : ∃ s2, s0 + v3 = s2 := ⟨_, rfl⟩
          have ws2 : IntKind.i64.wrap (s0 + v3) = s2 := by rw [IntWalk.i64_in _ (by omega)]; exact hs2
          have s2b : -10 ≤ s2 ∧ s2 ≤ 4000 := by omega
          clear hs2
          go_wp2_with fail
          refine (int_any _ 90 _ (by (repeat' (first | (with_reducible exact HT.out) | (with_reducible refine' TapeAt.alloc ?_ _) | (with_reducible refine' TapeAt.drew ?_) | (with_reducible refine' TapeAt.drewN ?_ _) | (with_reducible refine' TapeAt.set ?_ ?_ _))) <;> (first | omega | (simp <;> omega))) (by omega) (by omega)).mono ?_
          rintro e w8 ⟨v4, rfl, v40, v41, ht8, hg8⟩
          have K8 : GB b w w8 := GB.tap hg8 (by (try show GB b w _); (repeat' (first | (with_reducible exact K7) | (with_reducible refine GB.setCell ?_ ?_ _) | (with_reducible refine GB.alloc ?_ _) | (with_reducible refine GB.drew ?_) | (with_reducible refine GB.drewN ?_ _))) <;> (first | omega | (simp <;> omega)))
          have Z8 : w.heap.size ≤ w8.heap.size := K8.size
          clear HT; have T8 := ht8.lt; have HT := Lib.hid ht8; clear ht8
          clear hg8 K7
          obtain ⟨s3, hs3⟩ : ∃ s3, a2 + v4 = s3 := ⟨_, rfl⟩
          have ws3 : IntKind.i64.wrap (a2 + v4) = s3 := by rw [IntWalk.i64_in _ (by omega)]; exact hs3
          have s3b : -10 ≤ s3 ∧ s3 ≤ 4000 := by omega
          clear hs3
          go_wp2_with fail
          refine (int_any _ 40 _ (by (repeat' (first | (with_reducible exact HT.out) | (with_reducible refine' TapeAt.alloc ?_ _) | (with_reducible refine' TapeAt.drew ?_) | (with_reducible refine' TapeAt.drewN ?_ _) | (with_reducible refine' TapeAt.set ?_ ?_ _))) <;> (first | omega | (simp <;> omega))) (by omega) (by omega)).mono ?_
          rintro e w9 ⟨v5, rfl, v50, v51, ht9, hg9⟩
          have K9 : GB b w w9 := GB.tap hg9 (by (try show GB b w _); (repeat' (first | (with_reducible exact K8) | (with_reducible refine GB.setCell ?_ ?_ _) | (with_reducible refine GB.alloc ?_ _) | (with_reducible refine GB.drew ?_) | (with_reducible refine GB.drewN ?_ _))) <;> (first | omega | (simp <;> omega)))
          have Z9 : w.heap.size ≤ w9.heap.size := K9.size
          clear HT; have T9 := ht9.lt; have HT := Lib.hid ht9; clear ht9
          clear hg9 K8
          obtain ⟨l9, L9, hl9, hL9, nL9, RL⟩ := scr_line .sample #[115, 97, 109, 112, 108, 101] rfl [v1, a2, s1, s2, s3, v5] 6 rfl (by decide) (fun m hm => by simp only [List.mem_cons, List.mem_nil_iff, or_false] at hm; rcases hm with rfl | rfl | rfl | rfl | rfl | rfl; all_goals exact ⟨by omega, by omega⟩)
          have HSL := Lib.hid hl9; have HL9 := Lib.hid hL9; have HRL := Lib.hid RL; clear hl9 hL9 RL
          go_wp2_with fail
          refine (HRL.out _ _ (NumsR.newE [v1, a2, s1, s2, s3, v5] (by first | rfl | (simp; done)))).mono ?_
          rintro e w10 ⟨rfl, hb10⟩
          have K10 : GB b w w10 := GB.call hb10 (by (try show GB b w _); (repeat' (first | (with_reducible exact K9) | (with_reducible refine GB.setCell ?_ ?_ _) | (with_reducible refine GB.alloc ?_ _) | (with_reducible refine GB.drew ?_) | (with_reducible refine GB.drewN ?_ _))) <;> (first | omega | (simp <;> omega)))
          have Z10 : w.heap.size ≤ w10.heap.size := K10.size
          have ht10 := TapeAt.below (by (repeat' (first | (with_reducible exact HT.out) | (with_reducible refine' TapeAt.alloc ?_ _) | (with_reducible refine' TapeAt.drew ?_) | (with_reducible refine' TapeAt.drewN ?_ _) | (with_reducible refine' TapeAt.set ?_ ?_ _))) <;> (first | omega | (simp <;> omega))) hb10
          clear HT; have T10 := ht10.lt; have HT := Lib.hid ht10; clear ht10
          clear hb10 K9
          go_wp2
          go_roundg rj
          case measure => omega
          case rel => exact ⟨q + 1, rj, a2, ls ++ [l9], by omega, rfl, by (try simp only [wj, wj2]), rfl, a20, a21, by rw [lns_one, HTX.out, HL9.out]; (first | rfl | (simp [ByteArray.mk_append_mk]; done)), by rw [List.length_append, List.length_singleton]; omega, scL_snoc HSC.out HSL.out, (by (repeat' (first | (with_reducible exact HT.out) | (with_reducible refine' TapeAt.alloc ?_ _) | (with_reducible refine' TapeAt.drew ?_) | (with_reducible refine' TapeAt.drewN ?_ _) | (with_reducible refine' TapeAt.set ?_ ?_ _))) <;> (first | omega | (simp <;> omega))), (by (try show GB b w _); (repeat' (first | (with_reducible exact K10) | (with_reducible refine GB.setCell ?_ ?_ _) | (with_reducible refine GB.alloc ?_ _) | (with_reducible refine GB.drew ?_) | (with_reducible refine GB.drewN ?_ _))) <;> (first | omega | (simp <;> omega)))⟩
        · skip
          go_wp2_with fail
          refine (int_any _ 3 _ (by (repeat' (first | (with_reducible exact HT.out) | (with_reducible refine' TapeAt.alloc ?_ _) | (with_reducible refine' TapeAt.drew ?_) | (with_reducible refine' TapeAt.drewN ?_ _) | (with_reducible refine' TapeAt.set ?_ ?_ _))) <;> (first | omega | (simp <;> omega))) (by omega) (by omega)).mono ?_
          rintro e w5 ⟨v1, rfl, v10, v11, ht5, hg5⟩
          have K5 : GB b w w5 := GB.tap hg5 (by (try show GB b w _); (repeat' (first | (with_reducible exact K4) | (with_reducible refine GB.setCell ?_ ?_ _) | (with_reducible refine GB.alloc ?_ _) | (with_reducible refine GB.drew ?_) | (with_reducible refine GB.drewN ?_ _))) <;> (first | omega | (simp <;> omega)))
          have Z5 : w.heap.size ≤ w5.heap.size := K5.size
          clear HT; have T5 := ht5.lt; have HT := Lib.hid ht5; clear ht5
          clear hg5 K4
          obtain ⟨s0, hs0⟩ : ∃ s0, a2 + 1000 = s0 := ⟨_, rfl⟩
          have ws0 : IntKind.i64.wrap (a2 + 1000) = s0 := by rw [IntWalk.i64_in _ (by omega)]; exact hs0
          have s0b : -10 ≤ s0 ∧ s0 ≤ 2000 := by omega
          clear hs0
          go_wp2_with fail
          refine (int_any _ 50 _ (by (repeat' (first | (with_reducible exact HT.out) | (with_reducible refine' TapeAt.alloc ?_ _) | (with_reducible refine' TapeAt.drew ?_) | (with_reducible refine' TapeAt.drewN ?_ _) | (with_reducible refine' TapeAt.set ?_ ?_ _))) <;> (first | omega | (simp <;> omega))) (by omega) (by omega)).mono ?_
          rintro e w6 ⟨v2, rfl, v20, v21, ht6, hg6⟩
          have K6 : GB b w w6 := GB.tap hg6 (by (try show GB b w _); (repeat' (first | (with_reducible exact K5) | (with_reducible refine GB.setCell ?_ ?_ _) | (with_reducible refine GB.alloc ?_ _) | (with_reducible refine GB.drew ?_) | (with_reducible refine GB.drewN ?_ _))) <;> (first | omega | (simp <;> omega)))
          have Z6 : w.heap.size ≤ w6.heap.size := K6.size
          clear HT; have T6 := ht6.lt; have HT := Lib.hid ht6; clear ht6
          clear hg6 K5
          obtain ⟨s1, hs1⟩ : ∃ s1, s0 + v2 = s1 := ⟨_, rfl⟩
          have ws1 : IntKind.i64.wrap (s0 + v2) = s1 := by rw [IntWalk.i64_in _ (by omega)]; exact hs1
          have s1b : -10 ≤ s1 ∧ s1 ≤ 4000 := by omega
          clear hs1
          go_wp2_with fail
          refine (int_any _ 60 _ (by (repeat' (first | (with_reducible exact HT.out) | (with_reducible refine' TapeAt.alloc ?_ _) | (with_reducible refine' TapeAt.drew ?_) | (with_reducible refine' TapeAt.drewN ?_ _) | (with_reducible refine' TapeAt.set ?_ ?_ _))) <;> (first | omega | (simp <;> omega))) (by omega) (by omega)).mono ?_
          rintro e w7 ⟨v3, rfl, v30, v31, ht7, hg7⟩
          have K7 : GB b w w7 := GB.tap hg7 (by (try show GB b w _); (repeat' (first | (with_reducible exact K6) | (with_reducible refine GB.setCell ?_ ?_ _) | (with_reducible refine GB.alloc ?_ _) | (with_reducible refine GB.drew ?_) | (with_reducible refine GB.drewN ?_ _))) <;> (first | omega | (simp <;> omega)))
          have Z7 : w.heap.size ≤ w7.heap.size := K7.size
          clear HT; have T7 := ht7.lt; have HT := Lib.hid ht7; clear ht7
          clear hg7 K6
          obtain ⟨s2, hs2⟩ : ∃ s2, s0 + v3 = s2 := ⟨_, rfl⟩
          have ws2 : IntKind.i64.wrap (s0 + v3) = s2 := by rw [IntWalk.i64_in _ (by omega)]; exact hs2
          have s2b : -10 ≤ s2 ∧ s2 ≤ 4000 := by omega
          clear hs2
          go_wp2_with fail
          refine (int_any _ 90 _ (by (repeat' (first | (with_reducible exact HT.out) | (with_reducible refine' TapeAt.alloc ?_ _) | (with_reducible refine' TapeAt.drew ?_) | (with_reducible refine' TapeAt.drewN ?_ _) | (with_reducible refine' TapeAt.set ?_ ?_ _))) <;> (first | omega | (simp <;> omega))) (by omega) (by omega)).mono ?_
          rintro e w8 ⟨v4, rfl, v40, v41, ht8, hg8⟩
          have K8 : GB b w w8 := GB.tap hg8 (by (try show GB b w _); (repeat' (first | (with_reducible exact K7) | (with_reducible refine GB.setCell ?_ ?_ _) | (with_reducible refine GB.alloc ?_ _) | (with_reducible refine GB.drew ?_) | (with_reducible refine GB.drewN ?_ _))) <;> (first | omega | (simp <;> omega)))
          have Z8 : w.heap.size ≤ w8.heap.size := K8.size
          clear HT; have T8 := ht8.lt; have HT := Lib.hid ht8; clear ht8
          clear hg8 K7
          obtain ⟨s3, hs3⟩ : ∃ s3, a2 + v4 = s3 := ⟨_, rfl⟩
          have ws3 : IntKind.i64.wrap (a2 + v4) = s3 := by rw [IntWalk.i64_in _ (by omega)]; exact hs3
          have s3b : -10 ≤ s3 ∧ s3 ≤ 4000 := by omega
          clear hs3
          go_wp2_with fail
          refine (int_any _ 40 _ (by (repeat' (first | (with_reducible exact HT.out) | (with_reducible refine' TapeAt.alloc ?_ _) | (with_reducible refine' TapeAt.drew ?_) | (with_reducible refine' TapeAt.drewN ?_ _) | (with_reducible refine' TapeAt.set ?_ ?_ _))) <;> (first | omega | (simp <;> omega))) (by omega) (by omega)).mono ?_
          rintro e w9 ⟨v5, rfl, v50, v51, ht9, hg9⟩
          have K9 : GB b w w9 := GB.tap hg9 (by (try show GB b w _); (repeat' (first | (with_reducible exact K8) | (with_reducible refine GB.setCell ?_ ?_ _) | (with_reducible refine GB.alloc ?_ _) | (with_reducible refine GB.drew ?_) | (with_reducible refine GB.drewN ?_ _))) <;> (first | omega | (simp <;> omega)))
          have Z9 : w.heap.size ≤ w9.heap.size := K9.size
          clear HT; have T9 := ht9.lt; have HT := Lib.hid ht9; clear ht9
          clear hg9 K8
          obtain ⟨l9, L9, hl9, hL9, nL9, RL⟩ := scr_line .sample #[115, 97, 109, 112, 108, 101] rfl [v1, a2, s1, s2, s3, v5] 6 rfl (by decide) (fun m hm => by simp only [List.mem_cons, List.mem_nil_iff, or_false] at hm; rcases hm with rfl | rfl | rfl | rfl | rfl | rfl; all_goals exact ⟨by omega, by omega⟩)
          have HSL := Lib.hid hl9; have HL9 := Lib.hid hL9; have HRL := Lib.hid RL; clear hl9 hL9 RL
          go_wp2_with fail
          refine (HRL.out _ _ (NumsR.newE [v1, a2, s1, s2, s3, v5] (by first | rfl | (simp; done)))).mono ?_
          rintro e w10 ⟨rfl, hb10⟩
          have K10 : GB b w w10 := GB.call hb10 (by (try show GB b w _); (repeat' (first | (with_reducible exact K9) | (with_reducible refine GB.setCell ?_ ?_ _) | (with_reducible refine GB.alloc ?_ _) | (with_reducible refine GB.drew ?_) | (with_reducible refine GB.drewN ?_ _))) <;> (first | omega | (simp <;> omega)))
          have Z10 : w.heap.size ≤ w10.heap.size := K10.size
          have ht10 := TapeAt.below (by (repeat' (first | (with_reducible exact HT.out) | (with_reducible refine' TapeAt.alloc ?_ _) | (with_reducible refine' TapeAt.drew ?_) | (with_reducible refine' TapeAt.drewN ?_ _) | (with_reducible refine' TapeAt.set ?_ ?_ _))) <;> (first | omega | (simp <;> omega))) hb10
          clear HT; have T10 := ht10.lt; have HT := Lib.hid ht10; clear ht10
          clear hb10 K9
          go_wp2
          go_roundg rj
          case measure => omega
          case rel => exact ⟨q + 1, rj, a2, ls ++ [l9], by omega, rfl, by (try simp only [wj, wj2]), rfl, a20, a21, by rw [lns_one, HTX.out, HL9.out]; (first | rfl | (simp [ByteArray.mk_append_mk]; done)), by rw [List.length_append, List.length_singleton]; omega, scL_snoc HSC.out HSL.out, (by (repeat' (first | (with_reducible exact HT.out) | (with_reducible refine' TapeAt.alloc ?_ _) | (with_reducible refine' TapeAt.drew ?_) | (with_reducible refine' TapeAt.drewN ?_ _) | (with_reducible refine' TapeAt.set ?_ ?_ _))) <;> (first | omega | (simp <;> omega))), (by (try show GB b w _); (repeat' (first | (with_reducible exact K10) | (with_reducible refine GB.setCell ?_ ?_ _) | (with_reducible refine GB.alloc ?_ _) | (with_reducible refine GB.drew ?_) | (with_reducible refine GB.drewN ?_ _))) <;> (first | omega | (simp <;> omega)))⟩
        · skip
          go_wp2_with fail
          refine (int_any _ 100 _ (by (repeat' (first | (with_reducible exact HT.out) | (with_reducible refine' TapeAt.alloc ?_ _) | (with_reducible refine' TapeAt.drew ?_) | (with_reducible refine' TapeAt.drewN ?_ _) | (with_reducible refine' TapeAt.set ?_ ?_ _))) <;> (first | omega | (simp <;> omega))) (by omega) (by omega)).mono ?_
          rintro e w5 ⟨v1, rfl, v10, v11, ht5, hg5⟩
          have K5 : GB b w w5 := GB.tap hg5 (by (try show GB b w _); (repeat' (first | (with_reducible exact K4) | (with_reducible refine GB.setCell ?_ ?_ _) | (with_reducible refine GB.alloc ?_ _) | (with_reducible refine GB.drew ?_) | (with_reducible refine GB.drewN ?_ _))) <;> (first | omega | (simp <;> omega)))
          have Z5 : w.heap.size ≤ w5.heap.size := K5.size
          clear HT; have T5 := ht5.lt; have HT := Lib.hid ht5; clear ht5
          clear hg5 K4
          obtain ⟨s1, hs1⟩ : ∃ s1, a2 + v1 = s1 := ⟨_, rfl⟩
          have ws1 : IntKind.i64.wrap (a2 + v1) = s1 := by rw [IntWalk.i64_in _ (by omega)]; exact hs1
          have s1b : -10 ≤ s1 ∧ s1 ≤ 4000 := by omega
          clear hs1
          obtain ⟨l9, L9, hl9, hL9, nL9, RL⟩ := scr_line .now #[110, 111, 119] rfl [s1] 1 rfl (by decide) (fun m hm => by simp only [List.mem_cons, List.mem_nil_iff, or_false] at hm; rcases hm with rfl; all_goals exact ⟨by omega, by omega⟩)
          have HSL := Lib.hid hl9; have HL9 := Lib.hid hL9; have HRL := Lib.hid RL; clear hl9 hL9 RL
          go_wp2_with fail
          refine (HRL.out _ _ (NumsR.newE [s1] (by first | rfl | (simp; done)))).mono ?_
          rintro e w6 ⟨rfl, hb6⟩
          have K6 : GB b w w6 := GB.call hb6 (by (try show GB b w _); (repeat' (first | (with_reducible exact K5) | (with_reducible refine GB.setCell ?_ ?_ _) | (with_reducible refine GB.alloc ?_ _) | (with_reducible refine GB.drew ?_) | (with_reducible refine GB.drewN ?_ _))) <;> (first | omega | (simp <;> omega)))
          have Z6 : w.heap.size ≤ w6.heap.size := K6.size
          have ht6 := TapeAt.below (by (repeat' (first | (with_reducible exact HT.out) | (with_reducible refine' TapeAt.alloc ?_ _) | (with_reducible refine' TapeAt.drew ?_) | (with_reducible refine' TapeAt.drewN ?_ _) | (with_reducible refine' TapeAt.set ?_ ?_ _))) <;> (first | omega | (simp <;> omega))) hb6
          clear HT; have T6 := ht6.lt; have HT := Lib.hid ht6; clear ht6
          clear hb6 K5
          go_wp2
          go_roundg rj
          case measure => omega
          case rel => exact ⟨q + 1, rj, a2, ls ++ [l9], by omega, rfl, by (try simp only [wj, wj2]), rfl, a20, a21, by rw [lns_one, HTX.out, HL9.out]; (first | rfl | (simp [ByteArray.mk_append_mk]; done)), by rw [List.length_append, List.length_singleton]; omega, scL_snoc HSC.out HSL.out, (by (repeat' (first | (with_reducible exact HT.out) | (with_reducible refine' TapeAt.alloc ?_ _) | (with_reducible refine' TapeAt.drew ?_) | (with_reducible refine' TapeAt.drewN ?_ _) | (with_reducible refine' TapeAt.set ?_ ?_ _))) <;> (first | omega | (simp <;> omega))), (by (try show GB b w _); (repeat' (first | (with_reducible exact K6) | (with_reducible refine GB.setCell ?_ ?_ _) | (with_reducible refine GB.alloc ?_ _) | (with_reducible refine GB.drew ?_) | (with_reducible refine GB.drewN ?_ _))) <;> (first | omega | (simp <;> omega)))⟩
        · skip
          go_wp2_with fail
          refine (int_any _ 1100 _ (by (repeat' (first | (with_reducible exact HT.out) | (with_reducible refine' TapeAt.alloc ?_ _) | (with_reducible refine' TapeAt.drew ?_) | (with_reducible refine' TapeAt.drewN ?_ _) | (with_reducible refine' TapeAt.set ?_ ?_ _))) <;> (first | omega | (simp <;> omega))) (by omega) (by omega)).mono ?_
          rintro e w5 ⟨v1, rfl, v10, v11, ht5, hg5⟩
          have K5 : GB b w w5 := GB.tap hg5 (by (try show GB b w _); (repeat' (first | (with_reducible exact K4) | (with_reducible refine GB.setCell ?_ ?_ _) | (with_reducible refine GB.alloc ?_ _) | (with_reducible refine GB.drew ?_) | (with_reducible refine GB.drewN ?_ _))) <;> (first | omega | (simp <;> omega)))
          have Z5 : w.heap.size ≤ w5.heap.size := K5.size
          clear HT; have T5 := ht5.lt; have HT := Lib.hid ht5; clear ht5
          clear hg5 K4
          go_wp2_with fail
          refine (int_any _ 100 _ (by (repeat' (first | (with_reducible exact HT.out) | (with_reducible refine' TapeAt.alloc ?_ _) | (with_reducible refine' TapeAt.drew ?_) | (with_reducible refine' TapeAt.drewN ?_ _) | (with_reducible refine' TapeAt.set ?_ ?_ _))) <;> (first | omega | (simp <;> omega))) (by omega) (by omega)).mono ?_
          rintro e w6 ⟨v2, rfl, v20, v21, ht6, hg6⟩
          have K6 : GB b w w6 := GB.tap hg6 (by (try show GB b w _); (repeat' (first | (with_reducible exact K5) | (with_reducible refine GB.setCell ?_ ?_ _) | (with_reducible refine GB.alloc ?_ _) | (with_reducible refine GB.drew ?_) | (with_reducible refine GB.drewN ?_ _))) <;> (first | omega | (simp <;> omega)))
          have Z6 : w.heap.size ≤ w6.heap.size := K6.size
          clear HT; have T6 := ht6.lt; have HT := Lib.hid ht6; clear ht6
          clear hg6 K5
          obtain ⟨s1, hs1⟩ : ∃ s1, a2 + v2 = s1 := ⟨_, rfl⟩
          have ws1 : IntKind.i64.wrap (a2 + v2) = s1 := by rw [IntWalk.i64_in _ (by omega)]; exact hs1
          have s1b : -10 ≤ s1 ∧ s1 ≤ 4000 := by omega
          clear hs1
          obtain ⟨l9, L9, hl9, hL9, nL9, RL⟩ := scr_line .read #[114, 101, 97, 100] rfl [v1, s1] 2 rfl (by decide) (fun m hm => by simp only [List.mem_cons, List.mem_nil_iff, or_false] at hm; rcases hm with rfl | rfl; all_goals exact ⟨by omega, by omega⟩)
          have HSL := Lib.hid hl9; have HL9 := Lib.hid hL9; have HRL := Lib.hid RL; clear hl9 hL9 RL
          go_wp2_with fail
          refine (HRL.out _ _ (NumsR.newE [v1, s1] (by first | rfl | (simp; done)))).mono ?_
          rintro e w7 ⟨rfl, hb7⟩
          have K7 : GB b w w7 := GB.call hb7 (by (try show GB b w _); (repeat' (first | (with_reducible exact K6) | (with_reducible refine GB.setCell ?_ ?_ _) | (with_reducible refine GB.alloc ?_ _) | (with_reducible refine GB.drew ?_) | (with_reducible refine GB.drewN ?_ _))) <;> (first | omega | (simp <;> omega)))
          have Z7 : w.heap.size ≤ w7.heap.size := K7.size
          have ht7 := TapeAt.below (by (repeat' (first | (with_reducible exact HT.out) | (with_reducible refine' TapeAt.alloc ?_ _) | (with_reducible refine' TapeAt.drew ?_) | (with_reducible refine' TapeAt.drewN ?_ _) | (with_reducible refine' TapeAt.set ?_ ?_ _))) <;> (first | omega | (simp <;> omega))) hb7
          clear HT; have T7 := ht7.lt; have HT := Lib.hid ht7; clear ht7
          clear hb7 K6
          go_wp2
          go_roundg rj
          case measure => omega
          case rel => exact ⟨q + 1, rj, a2, ls ++ [l9], by omega, rfl, by (try simp only [wj, wj2]), rfl, a20, a21, by rw [lns_one, HTX.out, HL9.out]; (first | rfl | (simp [ByteArray.mk_append_mk]; done)), by rw [List.length_append, List.length_singleton]; omega, scL_snoc HSC.out HSL.out, (by (repeat' (first | (with_reducible exact HT.out) | (with_reducible refine' TapeAt.alloc ?_ _) | (with_reducible refine' TapeAt.drew ?_) | (with_reducible refine' TapeAt.drewN ?_ _) | (with_reducible refine' TapeAt.set ?_ ?_ _))) <;> (first | omega | (simp <;> omega))), (by (try show GB b w _); (repeat' (first | (with_reducible exact K7) | (with_reducible refine GB.setCell ?_ ?_ _) | (with_reducible refine GB.alloc ?_ _) | (with_reducible refine GB.drew ?_) | (with_reducible refine GB.drewN ?_ _))) <;> (first | omega | (simp <;> omega)))⟩
        · skip
          go_wp2_with fail
          refine (int_any _ 9 _ (by (repeat' (first | (with_reducible exact HT.out) | (with_reducible refine' TapeAt.alloc ?_ _) | (with_reducible refine' TapeAt.drew ?_) | (with_reducible refine' TapeAt.drewN ?_ _) | (with_reducible refine' TapeAt.set ?_ ?_ _))) <;> (first | omega | (simp <;> omega))) (by omega) (by omega)).mono ?_
          rintro e w5 ⟨v1, rfl, v10, v11, ht5, hg5⟩
          have K5 : GB b w w5 := GB.tap hg5 (by (try show GB b w _); (repeat' (first | (with_reducible exact K4) | (with_reducible refine GB.setCell ?_ ?_ _) | (with_reducible refine GB.alloc ?_ _) | (with_reducible refine GB.drew ?_) | (with_reducible refine GB.drewN ?_ _))) <;> (first | omega | (simp <;> omega)))
          have Z5 : w.heap.size ≤ w5.heap.size := K5.size
          clear HT; have T5 := ht5.lt; have HT := Lib.hid ht5; clear ht5
          clear hg5 K4
          go_wp2_with fail
          refine (int_any _ 50 _ (by (repeat' (first | (with_reducible exact HT.out) | (with_reducible refine' TapeAt.alloc ?_ _) | (with_reducible refine' TapeAt.drew ?_) | (with_reducible refine' TapeAt.drewN ?_ _) | (with_reducible refine' TapeAt.set ?_ ?_ _))) <;> (first | omega | (simp <;> omega))) (by omega) (by omega)).mono ?_
          rintro e w6 ⟨v2, rfl, v20, v21, ht6, hg6⟩
          have K6 : GB b w w6 := GB.tap hg6 (by (try show GB b w _); (repeat' (first | (with_reducible exact K5) | (with_reducible refine GB.setCell ?_ ?_ _) | (with_reducible refine GB.alloc ?_ _) | (with_reducible refine GB.drew ?_) | (with_reducible refine GB.drewN ?_ _))) <;> (first | omega | (simp <;> omega)))
          have Z6 : w.heap.size ≤ w6.heap.size := K6.size
          clear HT; have T6 := ht6.lt; have HT := Lib.hid ht6; clear ht6
          clear hg6 K5
          obtain ⟨s1, hs1⟩ : ∃ s1, v2 - 5 = s1 := ⟨_, rfl⟩
          have ws1 : IntKind.i64.wrap (v2 - 5) = s1 := by rw [IntWalk.i64_in _ (by omega)]; exact hs1
          have s1b : -10 ≤ s1 ∧ s1 ≤ 4000 := by omega
          clear hs1
          go_wp2_with fail
          refine (int_any _ 90 _ (by (repeat' (first | (with_reducible exact HT.out) | (with_reducible refine' TapeAt.alloc ?_ _) | (with_reducible refine' TapeAt.drew ?_) | (with_reducible refine' TapeAt.drewN ?_ _) | (with_reducible refine' TapeAt.set ?_ ?_ _))) <;> (first | omega | (simp <;> omega))) (by omega) (by omega)).mono ?_
          rintro e w7 ⟨v3, rfl, v30, v31, ht7, hg7⟩
          have K7 : GB b w w7 := GB.tap hg7 (by (try show GB b w _); (repeat' (first | (with_reducible exact K6) | (with_reducible refine GB.setCell ?_ ?_ _) | (with_reducible refine GB.alloc ?_ _) | (with_reducible refine GB.drew ?_) | (with_reducible refine GB.drewN ?_ _))) <;> (first | omega | (simp <;> omega)))
          have Z7 : w.heap.size ≤ w7.heap.size := K7.size
          clear HT; have T7 := ht7.lt; have HT := Lib.hid ht7; clear ht7
          clear hg7 K6
          obtain ⟨l9, L9, hl9, hL9, nL9, RL⟩ := scr_line .save #[115, 97, 118, 101] rfl [v1, s1, v3] 3 rfl (by decide) (fun m hm => by simp only [List.mem_cons, List.mem_nil_iff, or_false] at hm; rcases hm with rfl | rfl | rfl; all_goals exact ⟨by omega, by omega⟩)
          have HSL := Lib.hid hl9; have HL9 := Lib.hid hL9; have HRL := Lib.hid RL; clear hl9 hL9 RL
          go_wp2_with fail
          refine (HRL.out _ _ (NumsR.newE [v1, s1, v3] (by first | rfl | (simp; done)))).mono ?_
          rintro e w8 ⟨rfl, hb8⟩
          have K8 : GB b w w8 := GB.call hb8 (by (try show GB b w _); (repeat' (first | (with_reducible exact K7) | (with_reducible refine GB.setCell ?_ ?_ _) | (with_reducible refine GB.alloc ?_ _) | (with_reducible refine GB.drew ?_) | (with_reducible refine GB.drewN ?_ _))) <;> (first | omega | (simp <;> omega)))
          have Z8 : w.heap.size ≤ w8.heap.size := K8.size
          have ht8 := TapeAt.below (by (repeat' (first | (with_reducible exact HT.out) | (with_reducible refine' TapeAt.alloc ?_ _) | (with_reducible refine' TapeAt.drew ?_) | (with_reducible refine' TapeAt.drewN ?_ _) | (with_reducible refine' TapeAt.set ?_ ?_ _))) <;> (first | omega | (simp <;> omega))) hb8
          clear HT; have T8 := ht8.lt; have HT := Lib.hid ht8; clear ht8
          clear hb8 K7
          go_wp2
          go_roundg rj
          case measure => omega
          case rel => exact ⟨q + 1, rj, a2, ls ++ [l9], by omega, rfl, by (try simp only [wj, wj2]), rfl, a20, a21, by rw [lns_one, HTX.out, HL9.out]; (first | rfl | (simp [ByteArray.mk_append_mk]; done)), by rw [List.length_append, List.length_singleton]; omega, scL_snoc HSC.out HSL.out, (by (repeat' (first | (with_reducible exact HT.out) | (with_reducible refine' TapeAt.alloc ?_ _) | (with_reducible refine' TapeAt.drew ?_) | (with_reducible refine' TapeAt.drewN ?_ _) | (with_reducible refine' TapeAt.set ?_ ?_ _))) <;> (first | omega | (simp <;> omega))), (by (try show GB b w _); (repeat' (first | (with_reducible exact K8) | (with_reducible refine GB.setCell ?_ ?_ _) | (with_reducible refine GB.alloc ?_ _) | (with_reducible refine GB.drew ?_) | (with_reducible refine GB.drewN ?_ _))) <;> (first | omega | (simp <;> omega)))⟩
        · skip
          go_wp2_with fail
          refine (range_any _ (-3000000) 3000000 _ (by (repeat' (first | (with_reducible exact HT.out) | (with_reducible refine' TapeAt.alloc ?_ _) | (with_reducible refine' TapeAt.drew ?_) | (with_reducible refine' TapeAt.drewN ?_ _) | (with_reducible refine' TapeAt.set ?_ ?_ _))) <;> (first | omega | (simp <;> omega))) (by omega) (by omega) (by omega)).mono ?_
          rintro e w5 ⟨v1, rfl, v10, v11, ht5, hg5⟩
          have K5 : GB b w w5 := GB.tap hg5 (by (try show GB b w _); (repeat' (first | (with_reducible exact K4) | (with_reducible refine GB.setCell ?_ ?_ _) | (with_reducible refine GB.alloc ?_ _) | (with_reducible refine GB.drew ?_) | (with_reducible refine GB.drewN ?_ _))) <;> (first | omega | (simp <;> omega)))
          have Z5 : w.heap.size ≤ w5.heap.size := K5.size
          clear HT; have T5 := ht5.lt; have HT := Lib.hid ht5; clear ht5
          clear hg5 K4
          obtain ⟨l9, L9, hl9, hL9, nL9, RL⟩ := scr_line .utc #[117, 116, 99] rfl [v1] 1 rfl (by decide) (fun m hm => by simp only [List.mem_cons, List.mem_nil_iff, or_false] at hm; rcases hm with rfl; all_goals exact ⟨by omega, by omega⟩)
          have HSL := Lib.hid hl9; have HL9 := Lib.hid hL9; have HRL := Lib.hid RL; clear hl9 hL9 RL
          go_wp2_with fail
          refine (HRL.out _ _ (NumsR.newE [v1] (by first | rfl | (simp; done)))).mono ?_
          rintro e w6 ⟨rfl, hb6⟩
          have K6 : GB b w w6 := GB.call hb6 (by (try show GB b w _); (repeat' (first | (with_reducible exact K5) | (with_reducible refine GB.setCell ?_ ?_ _) | (with_reducible refine GB.alloc ?_ _) | (with_reducible refine GB.drew ?_) | (with_reducible refine GB.drewN ?_ _))) <;> (first | omega | (simp <;> omega)))
          have Z6 : w.heap.size ≤ w6.heap.size := K6.size
          have ht6 := TapeAt.below (by (repeat' (first | (with_reducible exact HT.out) | (with_reducible refine' TapeAt.alloc ?_ _) | (with_reducible refine' TapeAt.drew ?_) | (with_reducible refine' TapeAt.drewN ?_ _) | (with_reducible refine' TapeAt.set ?_ ?_ _))) <;> (first | omega | (simp <;> omega))) hb6
          clear HT; have T6 := ht6.lt; have HT := Lib.hid ht6; clear ht6
          clear hb6 K5
          go_wp2
          go_roundg rj
          case measure => omega
          case rel => exact ⟨q + 1, rj, a2, ls ++ [l9], by omega, rfl, by (try simp only [wj, wj2]), rfl, a20, a21, by rw [lns_one, HTX.out, HL9.out]; (first | rfl | (simp [ByteArray.mk_append_mk]; done)), by rw [List.length_append, List.length_singleton]; omega, scL_snoc HSC.out HSL.out, (by (repeat' (first | (with_reducible exact HT.out) | (with_reducible refine' TapeAt.alloc ?_ _) | (with_reducible refine' TapeAt.drew ?_) | (with_reducible refine' TapeAt.drewN ?_ _) | (with_reducible refine' TapeAt.set ?_ ?_ _))) <;> (first | omega | (simp <;> omega))), (by (try show GB b w _); (repeat' (first | (with_reducible exact K6) | (with_reducible refine GB.setCell ?_ ?_ _) | (with_reducible refine GB.alloc ?_ _) | (with_reducible refine GB.drew ?_) | (with_reducible refine GB.drewN ?_ _))) <;> (first | omega | (simp <;> omega)))⟩
        · skip
          go_wp2_with fail
          refine (int_any _ 9 _ (by (repeat' (first | (with_reducible exact HT.out) | (with_reducible refine' TapeAt.alloc ?_ _) | (with_reducible refine' TapeAt.drew ?_) | (with_reducible refine' TapeAt.drewN ?_ _) | (with_reducible refine' TapeAt.set ?_ ?_ _))) <;> (first | omega | (simp <;> omega))) (by omega) (by omega)).mono ?_
          rintro e w5 ⟨v1, rfl, v10, v11, ht5, hg5⟩
          have K5 : GB b w w5 := GB.tap hg5 (by (try show GB b w _); (repeat' (first | (with_reducible exact K4) | (with_reducible refine GB.setCell ?_ ?_ _) | (with_reducible refine GB.alloc ?_ _) | (with_reducible refine GB.drew ?_) | (with_reducible refine GB.drewN ?_ _))) <;> (first | omega | (simp <;> omega)))
          have Z5 : w.heap.size ≤ w5.heap.size := K5.size
          have b5_0 := Blk.keepG (g := w4.heap.size) hg5 (by (repeat' (first | ((with_reducible refine' Blk.newE ?_); first | rfl | (simp; done)) | (with_reducible refine' Blk.alloc ?_ _) | (with_reducible refine' Blk.drew ?_) | (with_reducible refine' Blk.drewN ?_ _) | (with_reducible refine' Blk.put ?_ ?_) | (with_reducible refine' Blk.far ?_ ?_ _) | exact rfl)) <;> (first | omega | (simp <;> omega))) (by first | omega | (simp <;> omega))
          (try simp only [List.setIfInBounds_toArray, List.set_cons_zero, List.set_cons_succ] at b5_0)
          clear HT; have T5 := ht5.lt; have HT := Lib.hid ht5; clear ht5
          clear hg5 K4
          obtain ⟨c5_0, f5_0, l5_0, e5_0, k5_0⟩ := Blk.facts b5_0
          have o5_0 := l5_0
          have h9 : v1 = 0 ∨ v1 = 1 ∨ v1 = 2 ∨ v1 = 3 ∨ v1 = 4 ∨ v1 = 5 ∨ v1 = 6 ∨ v1 = 7 ∨ v1 = 8 := by omega
          clear v10 v11
          rcases h9 with rfl | rfl | rfl | rfl | rfl | rfl | rfl | rfl | rfl
          · skip
            have HSL := Lib.hid (odd_ok (oddL.getD 0 []) (by decide))
            go_wp2
            go_roundg rj
            case measure => omega
            case rel => exact ⟨q + 1, rj, a2, ls ++ [oddL.getD 0 []], by omega, rfl, by (try simp only [wj, wj2]), rfl, a20, a21, by rw [lns_one, HTX.out]; (first | rfl | (simp [ByteArray.mk_append_mk, oddL]; done)), by rw [List.length_append, List.length_singleton]; omega, scL_snoc HSC.out HSL.out, (by (repeat' (first | (with_reducible exact HT.out) | (with_reducible refine' TapeAt.alloc ?_ _) | (with_reducible refine' TapeAt.drew ?_) | (with_reducible refine' TapeAt.drewN ?_ _) | (with_reducible refine' TapeAt.set ?_ ?_ _))) <;> (first | omega | (simp <;> omega))), (by (try show GB b w _); (repeat' (first | (with_reducible exact K5) | (with_reducible refine GB.setCell ?_ ?_ _) | (with_reducible refine GB.alloc ?_ _) | (with_reducible refine GB.drew ?_) | (with_reducible refine GB.drewN ?_ _))) <;> (first | omega | (simp <;> omega)))⟩
          · skip
            have HSL := Lib.hid (odd_ok (oddL.getD 1 []) (by decide))
            go_wp2
            go_roundg rj
            case measure => omega
            case rel => exact ⟨q + 1, rj, a2, ls ++ [oddL.getD 1 []], by omega, rfl, by (try simp only [wj, wj2]), rfl, a20, a21, by rw [lns_one, HTX.out]; (first | rfl | (simp [ByteArray.mk_append_mk, oddL]; done)), by rw [List.length_append, List.length_singleton]; omega, scL_snoc HSC.out HSL.out, (by (repeat' (first | (with_reducible exact HT.out) | (with_reducible refine' TapeAt.alloc ?_ _) | (with_reducible refine' TapeAt.drew ?_) | (with_reducible refine' TapeAt.drewN ?_ _) | (with_reducible refine' TapeAt.set ?_ ?_ _))) <;> (first | omega | (simp <;> omega))), (by (try show GB b w _); (repeat' (first | (with_reducible exact K5) | (with_reducible refine GB.setCell ?_ ?_ _) | (with_reducible refine GB.alloc ?_ _) | (with_reducible refine GB.drew ?_) | (with_reducible refine GB.drewN ?_ _))) <;> (first | omega | (simp <;> omega)))⟩
          · skip
            have HSL := Lib.hid (odd_ok (oddL.getD 2 []) (by decide))
            go_wp2
            go_roundg rj
            case measure => omega
            case rel => exact ⟨q + 1, rj, a2, ls ++ [oddL.getD 2 []], by omega, rfl, by (try simp only [wj, wj2]), rfl, a20, a21, by rw [lns_one, HTX.out]; (first | rfl | (simp [ByteArray.mk_append_mk, oddL]; done)), by rw [List.length_append, List.length_singleton]; omega, scL_snoc HSC.out HSL.out, (by (repeat' (first | (with_reducible exact HT.out) | (with_reducible refine' TapeAt.alloc ?_ _) | (with_reducible refine' TapeAt.drew ?_) | (with_reducible refine' TapeAt.drewN ?_ _) | (with_reducible refine' TapeAt.set ?_ ?_ _))) <;> (first | omega | (simp <;> omega))), (by (try show GB b w _); (repeat' (first | (with_reducible exact K5) | (with_reducible refine GB.setCell ?_ ?_ _) | (with_reducible refine GB.alloc ?_ _) | (with_reducible refine GB.drew ?_) | (with_reducible refine GB.drewN ?_ _))) <;> (first | omega | (simp <;> omega)))⟩
          · skip
            have HSL := Lib.hid (odd_ok (oddL.getD 3 []) (by decide))
            go_wp2
            go_roundg rj
            case measure => omega
            case rel => exact ⟨q + 1, rj, a2, ls ++ [oddL.getD 3 []], by omega, rfl, by (try simp only [wj, wj2]), rfl, a20, a21, by rw [lns_one, HTX.out]; (first | rfl | (simp [ByteArray.mk_append_mk, oddL]; done)), by rw [List.length_append, List.length_singleton]; omega, scL_snoc HSC.out HSL.out, (by (repeat' (first | (with_reducible exact HT.out) | (with_reducible refine' TapeAt.alloc ?_ _) | (with_reducible refine' TapeAt.drew ?_) | (with_reducible refine' TapeAt.drewN ?_ _) | (with_reducible refine' TapeAt.set ?_ ?_ _))) <;> (first | omega | (simp <;> omega))), (by (try show GB b w _); (repeat' (first | (with_reducible exact K5) | (with_reducible refine GB.setCell ?_ ?_ _) | (with_reducible refine GB.alloc ?_ _) | (with_reducible refine GB.drew ?_) | (with_reducible refine GB.drewN ?_ _))) <;> (first | omega | (simp <;> omega)))⟩
          · skip
            have HSL := Lib.hid (odd_ok (oddL.getD 4 []) (by decide))
            go_wp2
            go_roundg rj
            case measure => omega
            case rel => exact ⟨q + 1, rj, a2, ls ++ [oddL.getD 4 []], by omega, rfl, by (try simp only [wj, wj2]), rfl, a20, a21, by rw [lns_one, HTX.out]; (first | rfl | (simp [ByteArray.mk_append_mk, oddL]; done)), by rw [List.length_append, List.length_singleton]; omega, scL_snoc HSC.out HSL.out, (by (repeat' (first | (with_reducible exact HT.out) | (with_reducible refine' TapeAt.alloc ?_ _) | (with_reducible refine' TapeAt.drew ?_) | (with_reducible refine' TapeAt.drewN ?_ _) | (with_reducible refine' TapeAt.set ?_ ?_ _))) <;> (first | omega | (simp <;> omega))), (by (try show GB b w _); (repeat' (first | (with_reducible exact K5) | (with_reducible refine GB.setCell ?_ ?_ _) | (with_reducible refine GB.alloc ?_ _) | (with_reducible refine GB.drew ?_) | (with_reducible refine GB.drewN ?_ _))) <;> (first | omega | (simp <;> omega)))⟩
          · skip
            have HSL := Lib.hid (odd_ok (oddL.getD 5 []) (by decide))
            go_wp2
            go_roundg rj
            case measure => omega
            case rel => exact ⟨q + 1, rj, a2, ls ++ [oddL.getD 5 []], by omega, rfl, by (try simp only [wj, wj2]), rfl, a20, a21, by rw [lns_one, HTX.out]; (first | rfl | (simp [ByteArray.mk_append_mk, oddL]; done)), by rw [List.length_append, List.length_singleton]; omega, scL_snoc HSC.out HSL.out, (by (repeat' (first | (with_reducible exact HT.out) | (with_reducible refine' TapeAt.alloc ?_ _) | (with_reducible refine' TapeAt.drew ?_) | (with_reducible refine' TapeAt.drewN ?_ _) | (with_reducible refine' TapeAt.set ?_ ?_ _))) <;> (first | omega | (simp <;> omega))), (by (try show GB b w _); (repeat' (first | (with_reducible exact K5) | (with_reducible refine GB.setCell ?_ ?_ _) | (with_reducible refine GB.alloc ?_ _) | (with_reducible refine GB.drew ?_) | (with_reducible refine GB.drewN ?_ _))) <;> (first | omega | (simp <;> omega)))⟩
          · skip
            have HSL := Lib.hid (odd_ok (oddL.getD 6 []) (by decide))
            go_wp2
            go_roundg rj
            case measure => omega
            case rel => exact ⟨q + 1, rj, a2, ls ++ [oddL.getD 6 []], by omega, rfl, by (try simp only [wj, wj2]), rfl, a20, a21, by rw [lns_one, HTX.out]; (first | rfl | (simp [ByteArray.mk_append_mk, oddL]; done)), by rw [List.length_append, List.length_singleton]; omega, scL_snoc HSC.out HSL.out, (by (repeat' (first | (with_reducible exact HT.out) | (with_reducible refine' TapeAt.alloc ?_ _) | (with_reducible refine' TapeAt.drew ?_) | (with_reducible refine' TapeAt.drewN ?_ _) | (with_reducible refine' TapeAt.set ?_ ?_ _))) <;> (first | omega | (simp <;> omega))), (by (try show GB b w _); (repeat' (first | (with_reducible exact K5) | (with_reducible refine GB.setCell ?_ ?_ _) | (with_reducible refine GB.alloc ?_ _) | (with_reducible refine GB.drew ?_) | (with_reducible refine GB.drewN ?_ _))) <;> (first | omega | (simp <;> omega)))⟩
          · skip
            have HSL := Lib.hid (odd_ok (oddL.getD 7 []) (by decide))
            go_wp2
            go_roundg rj
            case measure => omega
            case rel => exact ⟨q + 1, rj, a2, ls ++ [oddL.getD 7 []], by omega, rfl, by (try simp only [wj, wj2]), rfl, a20, a21, by rw [lns_one, HTX.out]; (first | rfl | (simp [ByteArray.mk_append_mk, oddL]; done)), by rw [List.length_append, List.length_singleton]; omega, scL_snoc HSC.out HSL.out, (by (repeat' (first | (with_reducible exact HT.out) | (with_reducible refine' TapeAt.alloc ?_ _) | (with_reducible refine' TapeAt.drew ?_) | (with_reducible refine' TapeAt.drewN ?_ _) | (with_reducible refine' TapeAt.set ?_ ?_ _))) <;> (first | omega | (simp <;> omega))), (by (try show GB b w _); (repeat' (first | (with_reducible exact K5) | (with_reducible refine GB.setCell ?_ ?_ _) | (with_reducible refine GB.alloc ?_ _) | (with_reducible refine GB.drew ?_) | (with_reducible refine GB.drewN ?_ _))) <;> (first | omega | (simp <;> omega)))⟩
          · skip
            have HSL := Lib.hid (odd_ok (oddL.getD 8 []) (by decide))
            go_wp2
            go_roundg rj
            case measure => omega
            case rel => exact ⟨q + 1, rj, a2, ls ++ [oddL.getD 8 []], by omega, rfl, by (try simp only [wj, wj2]), rfl, a20, a21, by rw [lns_one, HTX.out]; (first | rfl | (simp [ByteArray.mk_append_mk, oddL]; done)), by rw [List.length_append, List.length_singleton]; omega, scL_snoc HSC.out HSL.out, (by (repeat' (first | (with_reducible exact HT.out) | (with_reducible refine' TapeAt.alloc ?_ _) | (with_reducible refine' TapeAt.drew ?_) | (with_reducible refine' TapeAt.drewN ?_ _) | (with_reducible refine' TapeAt.set ?_ ?_ _))) <;> (first | omega | (simp <;> omega))), (by (try show GB b w _); (repeat' (first | (with_reducible exact K5) | (with_reducible refine GB.setCell ?_ ?_ _) | (with_reducible refine GB.alloc ?_ _) | (with_reducible refine GB.drew ?_) | (with_reducible refine GB.drewN ?_ _))) <;> (first | omega | (simp <;> omega)))⟩
      · obtain rfl : r = 0 := by omega
        have gq : decide ((0 : Int) < ((0 : Nat) : Int)) = false := by decide
        go_wp2
        go_ret
        exact ⟨ls, (by rw [HTX.out]; rfl), by omega, HSC.out, (by (repeat' (first | (with_reducible exact HT.out) | (with_reducible refine' TapeAt.alloc ?_ _) | (with_reducible refine' TapeAt.drew ?_) | (with_reducible refine' TapeAt.drewN ?_ _) | (with_reducible refine' TapeAt.set ?_ ?_ _))) <;> (first | omega | (simp <;> omega))), (by (try show GB b w _); (repeat' (first | (with_reducible exact KR) | (with_reducible refine GB.setCell ?_ ?_ _) | (with_reducible refine GB.alloc ?_ _) | (with_reducible refine GB.drew ?_) | (with_reducible refine GB.drewN ?_ _))) <;> (first | omega | (simp <;> omega)))⟩
end Go.Proofs.YtiinmhfolfgobaaGreatDoor
