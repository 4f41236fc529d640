/- Lemmas. -/
import Derived.Lib.BitFns
import Derived.Lib.DecodeN
import Derived.Lib.FieldsP
import Derived.Lib.SplitLaws
import Derived.Lib.Strings
import Derived.Test.YtiinmhfolfgobaaGreatDoorFrameL
import Derived.Test.YtiinmhfolfgobaaGreatDoorJ7
import Derived.Test.YtiinmhfolfgobaaGreatDoorShelfLay
import Derived.Test.YtiinmhfolfgobaaGreatDoorJ11
import Derived.Test.YtiinmhfolfgobaaGreatDoorJ5
import Derived.Test.YtiinmhfolfgobaaGreatDoorPk
set_option linter.unusedVariables false
set_option linter.unusedSimpArgs false
namespace Go.Proofs.YtiinmhfolfgobaaGreatDoor
open Go.RowKit Go.Shelf Go.Sort
theorem below_growN {w : World} (k : Nat) (os : Array Obj) : Below w.heap.size w (grow (w.drewN k) os) := by
 refine ⟨rfl, rfl, rfl, by simp [grow, World.drewN], fun i hi => ?_⟩
 simp only [grow, World.drewN]
 rw [Array.getElem?_append_left hi]
theorem itoa_any (n : Int) (h0 : -9223372036854775808 ≤ n) (h1 : n ≤ 9223372036854775807) (w : World) (ht : Pow10 w) :
  Calls Tryz.prog 101 #[.int .i64 n] w (RB w (.string ⟨(Lib.itoa n).toArray⟩)) :=
 (Tryz.strconv_Itoa n h0 h1 w ht).mono fun _ _ ⟨he, k, os, hw⟩ => ⟨he, hw ▸ below_growN k os⟩
theorem repeat_any (s : ByteArray) (c : Nat) (w : World) (hc : c ≤ 9223372036854775807) (hlen : s.size * c ≤ 140737488355328) :
  Calls Tryz.prog 171 #[.string s, .int .i64 c] w (RB w (.string ⟨(Lib.repeatL s.data.toList c).toArray⟩)) :=
 (Tryz.strings_Repeat s c w hc hlen).mono fun _ _ ⟨he, hw⟩ => ⟨he, hw⟩
end Go.Proofs.YtiinmhfolfgobaaGreatDoor
namespace Go.Proofs.YtiinmhfolfgobaaGreatDoor
open Go.RowKit
set_option maxHeartbeats 8000000
theorem i64_mask20 (n : Int) : bits .and .i64 n 1048575 = n % 1048576 := i64_mask n 20 Yo
theorem second_any (t : Int) (h0 : -9223372036854775808 ≤ t) (h1 : t ≤ 9223372036854775807) (w : World) :
  Calls Tryz.prog 170 #[.int .i64 t] w (fun e w' => e = .returned (.int .i64 (t / 1048576)) ∧ w = w') := by
 go_enter Tryz.func170, Tryz.ntmps170
 go_wp2
 go_ret
 exact ⟨rfl, rfl⟩
theorem part_any (t : Int) (w : World) :
  Calls Tryz.prog 169 #[.int .i64 t] w (fun e w' => e = .returned (.int .i64 (t % 1048576)) ∧ w = w') := by
 go_enter Tryz.func169, Tryz.ntmps169
 go_wp2
 go_ret
 exact ⟨by rw [i64_mask20]; rfl, rfl⟩
def fmtS (t : Int) : List UInt8 := Lib.itoa (t / 1048576) ++ [46] ++ Lib.repeatL [48] (7 - (Lib.itoa (t % 1048576)).length) ++ Lib.itoa (t % 1048576)
theorem format_any (t : Int) (h0 : -9223372036854775808 ≤ t) (h1 : t ≤ 9223372036854775807) (hl : (Lib.itoa (t % 1048576)).length ≤ 7) (hl2 : (Lib.itoa (t / 1048576)).length ≤ 30) (w : World) (hw : Pow10 w) :
  Calls Tryz.prog 137 #[.int .i64 t] w (RB w (.string ⟨(fmtS t).toArray⟩)) := by
 have r1 := part_any t
 have r2 := second_any t h0 h1
 have b1 : 0 ≤ t % 1048576 := by omega
 have b2 : t % 1048576 < 1048576 := by omega
 have b3 : -9223372036854775808 ≤ t / 1048576 := by omega
 have b4 : t / 1048576 ≤ 9223372036854775807 := by omega
 have r3 := fun w => itoa_any (t % 1048576) Yo Yo w
 have r4 := fun w => itoa_any (t / 1048576) Yo Yo w
 unfold fmtS
 generalize Lib.itoa (t % 1048576) = sp at *
 generalize Lib.itoa (t / 1048576) = ss at *
 have r5 : ∀ w, Calls Tryz.prog 171 #[.string ⟨#[48]⟩, .int .i64 ((7 - sp.length : Nat) : Int)] w (RB w (.string ⟨(Lib.repeatL [48] (7 - sp.length)).toArray⟩)) := fun w => repeat_any ⟨#[48]⟩ (7 - sp.length) w Yo (by show 1 * (7 - sp.length) ≤ _; omega)
 have hr : (Lib.repeatL [48] (7 - sp.length)).length ≤ 7 := by rw [Lib.repeatL_length]; simp
 generalize Lib.repeatL [48] (7 - sp.length) = rp at *
 have e5 : (7 : Int) - (sp.length : Int) = ((7 - sp.length : Nat) : Int) := by omega
 have R1 := Yh r1; have R2 := Yh r2; have R3 := Yh r3; have R4 := Yh r4; have R5 := Yh r5; have E5 := Yh e5; have HW := Yh hw; clear r1 r2 r3 r4 r5 e5 hw
 go_enter Tryz.func137, Tryz.ntmps137
 go_wp2_with fail
 refine (R1.out _).mono ?_
 rintro e wq1 ⟨rfl, rfl⟩
 go_wp2_with fail
 refine (R3.out _ HW.out).mono ?_
 rintro e w1 ⟨rfl, hb1⟩
 have K1 : Below w.heap.size w w1 := Yc hb1 bl0
 have Z1 := K1.size
 clear hb1
 go_wp2_with fail
 refine (R2.out _).mono ?_
 rintro e wq2 ⟨rfl, rfl⟩
 go_wp2_with fail
 refine (R4.out _ (HW.out.below K1)).mono ?_
 rintro e w2 ⟨rfl, hb2⟩
 have K2 : Below w.heap.size w w2 := Yc hb2 bl1
 have Z2 := K2.size
 clear hb2 K1
 go_wp2_with fail
 rw [E5.out]
 refine (R5.out _).mono ?_
 rintro e w3 ⟨rfl, hb3⟩
 go_wp2
 go_ret
 exact ⟨by (simp; apply ByteArray.ext; simp), Yc hb3 K2⟩
theorem itoa_len (n : Int) (k : Nat) (h0 : -(10 ^ k : Nat) < n) (h1 : n < (10 ^ k : Nat)) (hk : 1 ≤ k) : (Lib.itoa n).length ≤ k + 1 ∧ (0 ≤ n → (Lib.itoa n).length ≤ k) := by
 have H : ∀ (k u : Nat), 1 ≤ k → u < 10 ^ k → (Lib.decDigits u).length ≤ k := by
  intro k
  induction k with
  | zero => intro u h; omega
  | succ k ih =>
   intro u _ hu
   unfold Lib.decDigits
   split
   ·simp
   ·rename_i hge
    have : 1 ≤ k := by
     rcases Nat.eq_zero_or_pos k with h | h
     ·subst h; simp at hu; omega
     ·exact h
    have := ih (u / 10) this (by rw [Nat.pow_succ] at hu; omega)
    simp; omega
 unfold Lib.itoa
 split
 ·have := H k n.natAbs hk Yo
  exact ⟨by simp; omega, fun h => by omega⟩
 ·have := H k n.toNat hk Yo
  exact ⟨Yo, fun _ => this⟩
theorem fmt_len (t : Int) (h0 : -9223372036854775808 ≤ t) (h1 : t ≤ 9223372036854775807) : (Lib.itoa (t % 1048576)).length ≤ 7 ∧ (Lib.itoa (t / 1048576)).length ≤ 30 :=
 ⟨(itoa_len (t % 1048576) 7 Yo Yo Yo).2 Yo, by have := (itoa_len (t / 1048576) 19 Yo Yo Yo).1; omega⟩
theorem formatF (t : Int) (h0 : -9223372036854775808 ≤ t) (h1 : t ≤ 9223372036854775807) (w : World) (hw : Pow10 w) : Calls Tryz.prog 137 #[.int .i64 t] w (RB w (.string ⟨(fmtS t).toArray⟩)) :=
 format_any t h0 h1 (fmt_len t h0 h1).1 (fmt_len t h0 h1).2 w hw
theorem rsecond_any (t : Int) (h0 : -9223372036854775808 ≤ t) (h1 : t ≤ 9223372036854775807) (w : World) :
  Calls Tryz.prog 118 #[.int .i64 t] w (fun e w' => e = .returned (.int .i64 (t / 1048576)) ∧ w = w') := by
 have r := fun w => below10_any t 1048576 w Yo Yo h0 h1
 have R := Yh r; clear r
 go_enter Tryz.func118, Tryz.ntmps118
 go_wp2_with fail
 refine (R.out _).mono ?_
 rintro e wq1 ⟨rfl, rfl⟩
 go_wp2
 go_ret
 exact ⟨rfl, rfl⟩
theorem rpart_any (t : Int) (h0 : -9223372036854775808 ≤ t) (h1 : t ≤ 9223372036854775807) (w : World) :
  Calls Tryz.prog 120 #[.int .i64 t] w (fun e w' => e = .returned (.int .i64 (t % 1048576)) ∧ w = w') := by
 have r := rsecond_any t h0 h1
 have e : t - t / 1048576 * 1048576 = t % 1048576 := by omega
 have b0 : -8796093022208 ≤ t / 1048576 := by omega
 have b1 : t / 1048576 ≤ 8796093022207 := by omega
 have b2 : 0 ≤ t % 1048576 := by omega
 have b3 : t % 1048576 < 1048576 := by omega
 generalize t / 1048576 = s at *
 generalize t % 1048576 = p at *
 have R := Yh r; clear r
 go_enter Tryz.func120, Tryz.ntmps120
 go_wp2_with fail
 refine (R.out _).mono ?_
 rintro e wq1 ⟨rfl, rfl⟩
 go_wp2
 go_ret
 exact ⟨ret_int Yo, rfl⟩
end Go.Proofs.YtiinmhfolfgobaaGreatDoor
namespace Go.Proofs.YtiinmhfolfgobaaGreatDoor
open Go.Lib
def cutAt (c : UInt8) : List UInt8 → List (List UInt8)
 | [] => [[]]
 | b :: l => if b = c then [] :: cutAt c l else match cutAt c l with
  | [] => [[b]]
  | x :: xs => (b :: x) :: xs
theorem index_cons_eq (c : UInt8) (l : List UInt8) : index (c :: l) [c] = 0 := by rw [index]; simp [List.isPrefixOf]
theorem index_cons_ne {b c : UInt8} (l : List UInt8) (h : b ≠ c) : index (b :: l) [c] = if index l [c] == -1 then -1 else index l [c] + 1 := by
 rw [index, show ([c] : List UInt8).isPrefixOf (b :: l) = false by simp [List.isPrefixOf, Ne.symm h]]; simp
theorem splitK_cutAt (c : UInt8) : ∀ l : List UInt8, splitK [c] 0 (l.count c) l = cutAt c l
 | [] => rfl
 | b :: l => by
  by_cases h : b = c
  ·subst h
   rw [List.count_cons_self, splitK, index_cons_eq, cutAt, if_pos rfl, if_neg Yd]
   simp [splitK_cutAt b l]
  ·rw [List.count_cons_of_ne (by simpa using h), cutAt, if_neg h, ← splitK_cutAt c l]
   have ih := splitK_cutAt c l
   cases hk : l.count c with
   | zero => simp [splitK]
   | succ k =>
    have hix : index l [c] ≠ -1 := fun e => by
     have h0 := count_miss e
     rw [count_one] at h0; omega
    have hge := index_ge l [c]
    obtain ⟨j, hj⟩ : ∃ j : Nat, index l [c] = j := ⟨(index l [c]).toNat, Yo⟩
    rw [splitK, splitK, index_cons_ne l h, hj]
    rw [if_neg (show ¬ (((if ((j : Int) == -1) then (-1 : Int) else (j : Int) + 1) == -1) = true) by rw [if_neg Ys]; simp; omega), if_neg (show ¬ (((j : Int) == -1) = true) by simp), if_neg (show ¬ (((j : Int) == -1) = true) by simp)]
    have e1 : ((j : Int) + 1).toNat = j + 1 := by omega
    have e2 : ((j : Int)).toNat = j := by omega
    rw [e1, e2]
    simp
theorem splitB_cutAt (c : UInt8) (s : ByteArray) : (splitB ⟨#[c]⟩ 0 (countB s ⟨#[c]⟩) s).map (·.data.toList) = cutAt c s.data.toList := by
 rw [splitB_data]
 show splitK [c] 0 (count s.data.toList [c]) s.data.toList = _
 rw [count_one, splitK_cutAt]
theorem cutAt_one (c : UInt8) : ∀ l : List UInt8, c ∉ l → cutAt c l = [l]
 | [], _ => rfl
 | b :: l, h => by
  simp only [List.mem_cons, not_or] at h
  rw [cutAt, if_neg (Ne.symm h.1), cutAt_one c l h.2]
theorem cutAt_app (c : UInt8) : ∀ (x l : List UInt8), c ∉ x → cutAt c (x ++ c :: l) = x :: cutAt c l
 | [], l, _ => by rw [List.nil_append, cutAt, if_pos rfl]
 | b :: x, l, h => by
  simp only [List.mem_cons, not_or] at h
  rw [List.cons_append, cutAt, if_neg (Ne.symm h.1), cutAt_app c x l h.2]
def lnsT : List (List UInt8) → List UInt8
 | [] => []
 | x :: xs => x ++ 10 :: lnsT xs
theorem lnsT_app : ∀ a b : List (List UInt8), lnsT (a ++ b) = lnsT a ++ lnsT b
 | [], _ => rfl
 | x :: xs, b => by rw [List.cons_append, lnsT, lnsT_app xs b, lnsT, List.append_assoc]; rfl
theorem cut_lns : ∀ (xs : List (List UInt8)) (y : List UInt8), (∀ x ∈ xs, (10 : UInt8) ∉ x) → (10 : UInt8) ∉ y → cutAt 10 (lnsT xs ++ y) = xs ++ [y]
 | [], y, _, hy => cutAt_one 10 y hy
 | x :: xs, y, h, hy => by
  rw [lnsT, List.append_assoc, List.cons_append, cutAt_app 10 x _ (h x Ys), cut_lns xs y (fun z hz => h z (by simp [hz])) hy]; rfl
theorem suffix_last : ∀ (l : List UInt8) (c : UInt8), hasSuffix (l ++ [c]) [c] = true := fun l c => by
 unfold hasSuffix; simp
theorem trim_lns (xs : List (List UInt8)) (x : List UInt8) : trimSuffix (lnsT (xs ++ [x])) [10] = lnsT xs ++ x := by
 have e : lnsT (xs ++ [x]) = (lnsT xs ++ x) ++ [10] := by rw [lnsT_app]; simp [lnsT]
 rw [e]; unfold trimSuffix; rw [if_pos (suffix_last _ _), lla, List.length_singleton, Nat.add_sub_cancel, List.take_left]
def wordsGo : List UInt8 → List UInt8 → List (List UInt8)
 | cur, [] => if cur = [] then [] else [cur]
 | cur, b :: l => if b = 32 then (if cur = [] then wordsGo [] l else cur :: wordsGo [] l) else wordsGo (cur ++ [b]) l
def blankR (r : Nat) : Bool := r == 32
theorem decode_ascii (s : ByteArray) (i : Nat) (h : i < s.size) (ha : s[i].toNat < 128) : Utf8.decode s i = (s[i].toNat, 1) := by
 have e : s.get! i = s[i] := by simp [ByteArray.get!, getElem!_pos s.data i h]; rfl
 rw [decode_at]
 unfold decodeN
 rw [e, if_pos ha]
theorem drop_get (s : ByteArray) (i : Nat) (h : i < s.size) : s.data.toList.drop i = s[i] :: s.data.toList.drop (i + 1) := by
 rw [List.drop_eq_getElem_cons (by simpa using h)]; rfl
theorem wordsP_eq (s : ByteArray) (ha : ∀ b ∈ s.data.toList, b.toNat < 128) : ∀ (f pos : Nat) (st : Option Nat) (acc : List (Nat × Nat)), s.size ≤ pos + f → pos ≤ s.size → (∀ a, st = some a → a < pos) →
  acc.map (fun p => pieceU s.data.toList p.1 p.2) ++ wordsGo (openPiece s.data.toList st pos) (s.data.toList.drop pos) = (closeSpans s (spansFromP blankR s f pos st acc)).map (fun p => pieceU s.data.toList p.1 p.2)
 | 0, pos, st, acc, h, hp, hst => by
  obtain rfl : pos = s.size := by omega
  have hd : s.data.toList.drop s.size = [] := List.drop_eq_nil_of_le (by rw [← size_eq]; exact Nat.le_refl _)
  rw [hd]
  cases st with
  | none => simp [spansFromP, closeSpans, openPiece, wordsGo]
  | some a =>
   have := pieceU_ne s.data.toList a s.size (hst a rfl) (by rw [← size_eq]; exact Nat.le_refl _)
   simp [spansFromP, closeSpans, openPiece, this, wordsGo]
 | f + 1, pos, st, acc, h, hp, hst => by
  by_cases hlt : pos < s.size
  ·have hb : s[pos].toNat < 128 := ha _ (by rw [← Array.mem_def]; exact Array.getElem_mem hlt)
   rw [drop_get s pos hlt]
   simp only [spansFromP, if_pos hlt, decode_ascii s pos hlt hb]
   by_cases hsp : s[pos] = 32
   ·have h1 : blankR s[pos].toNat = true := by rw [hsp]; rfl
    rw [h1]
    simp only [if_true]
    cases st with
    | none =>
     have ih := wordsP_eq s ha f (pos + 1) none acc Yo Yo (fun a h => by cases h)
     simpa [openPiece, wordsGo, hsp] using ih
    | some a =>
     have hpn := pieceU_ne s.data.toList a pos (hst a rfl) (by rw [← size_eq]; omega)
     have ih := wordsP_eq s ha f (pos + 1) none (acc ++ [(a, pos)]) Yo Yo (fun a h => by cases h)
     simpa [openPiece, hpn, wordsGo, hsp] using ih
   ·have h1 : blankR s[pos].toNat = false := by
     unfold blankR
     rw [beq_eq_false_iff_ne]
     intro e; exact hsp (UInt8.toNat_inj.1 e)
    rw [h1]
    simp only [Bool.false_eq_true, if_false]
    cases st with
    | none =>
     have ih := wordsP_eq s ha f (pos + 1) (some pos) acc Yo Yo (fun a h => by cases h; omega)
     have e : pieceU s.data.toList pos (pos + 1) = [s[pos]] := by
      unfold pieceU
      rw [drop_get s pos hlt, Nat.add_sub_cancel_left]; rfl
     simp only [openPiece] at ih ⊢
     rw [e] at ih
     simpa [wordsGo, hsp] using ih
    | some a =>
     have ih := wordsP_eq s ha f (pos + 1) (some a) acc Yo Yo (fun b h => by cases h; have := hst a rfl; omega)
     simp only [openPiece] at ih ⊢
     rw [← pieceU_grow _ _ _ _ (Nat.le_of_lt (hst a rfl)), drop_get s pos hlt] at ih
     simpa [wordsGo, hsp] using ih
  ·obtain rfl : pos = s.size := by omega
   have hd : s.data.toList.drop s.size = [] := List.drop_eq_nil_of_le (by rw [← size_eq]; exact Nat.le_refl _)
   rw [hd, spansFromP_end blankR s _ _ _ _ hlt]
   cases st with
   | none => simp [closeSpans, openPiece, wordsGo]
   | some a =>
    have := pieceU_ne s.data.toList a s.size (hst a rfl) (by rw [← size_eq]; exact Nat.le_refl _)
    simp [closeSpans, openPiece, this, wordsGo]
theorem fieldsP_words (s : ByteArray) (ha : ∀ b ∈ s.data.toList, b.toNat < 128) : (goFieldsP blankR s).map (·.data.toList) = wordsGo [] s.data.toList := by
 have h := wordsP_eq s ha s.size 0 none [] Yo Yo (fun a h => by cases h)
 simp only [lm0, List.nil_append, openPiece, List.drop_zero] at h
 rw [h]
 unfold goFieldsP spansOfP
 rw [List.map_map]
 refine List.map_congr_left fun p _ => ?_
 show (s.extract p.1 p.2).data.toList = _
 rw [extract_data]
 simp [pieceU]
theorem wordsGo_word : ∀ (x cur l : List UInt8), (32 : UInt8) ∉ x → wordsGo cur (x ++ l) = wordsGo (cur ++ x) l
 | [], cur, l, _ => by simp
 | b :: x, cur, l, h => by
  simp only [List.mem_cons, not_or] at h
  rw [List.cons_append, wordsGo, if_neg (Ne.symm h.1), wordsGo_word x (cur ++ [b]) l h.2]; simp
theorem wordsGo_blank (cur l : List UInt8) (h : cur ≠ []) : wordsGo cur (32 :: l) = cur :: wordsGo [] l := by rw [wordsGo, if_pos rfl, if_neg h]
theorem wordsGo_end (cur : List UInt8) (h : cur ≠ []) : wordsGo cur [] = [cur] := by rw [wordsGo, if_neg h]
end Go.Proofs.YtiinmhfolfgobaaGreatDoor
