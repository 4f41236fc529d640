/- Lemmas. -/
import Derived.Deep.AppendLies
import Derived.Deep.LoopGhost
import Derived.OwnWalk
import Derived.Test.YtiinmhfolfgobaaGreatDoorJ34
import Derived.Test.YtiinmhfolfgobaaGreatDoorJ33
import Derived.Test.YtiinmhfolfgobaaGreatDoorJ30
import Derived.Test.YtiinmhfolfgobaaGreatDoorJ10
import Derived.Test.YtiinmhfolfgobaaGreatDoorJ29
set_option linter.unusedVariables false
set_option linter.unusedSimpArgs false
namespace Go.Proofs.YtiinmhfolfgobaaGreatDoor
open Go.RowKit Go.Lib
def pieceL (l : List UInt8) (a b : Nat) : List UInt8 := (l.drop a).take (b - a)
def lnQ (l : List UInt8) : Nat → List (List UInt8) × Nat
 | 0 => ([], 0)
 | q + 1 => if l.getD q 0 = 10 then ((lnQ l q).1 ++ [pieceL l (lnQ l q).2 q], q + 1) else lnQ l q
theorem lnQ_le (l : List UInt8) : ∀ q, (lnQ l q).2 ≤ q ∧ (lnQ l q).1.length ≤ q
 | 0 => ⟨Nat.le_refl _, Nat.le_refl _⟩
 | q + 1 => by
  have := lnQ_le l q
  rw [lnQ]; split
  ·exact ⟨Nat.le_refl _, by rw [lla]; simp; omega⟩
  ·exact ⟨Yo, Yo⟩
theorem pieceL_pre (s t : List UInt8) (a b : Nat) (h : b ≤ s.length) : pieceL (s ++ t) a b = pieceL s a b := by
 unfold pieceL
 by_cases ha : a ≤ s.length
 ·rw [List.drop_append_of_le_length ha, List.take_append_of_le_length (by rw [List.length_drop]; omega)]
 ·rw [show b - a = 0 by omega]; simp
theorem lnQ_pre (s t : List UInt8) : ∀ q, q ≤ s.length → lnQ (s ++ t) q = lnQ s q
 | 0, _ => rfl
 | q + 1, h => by
  rw [lnQ, lnQ, lnQ_pre s t q Yo, pieceL_pre _ _ _ _ Yo]
  have e : (s ++ t).getD q 0 = s.getD q 0 := by simp only [Y8]; rw [List.getElem?_append_left Yo]
  rw [e]
theorem lnQ_in (s x t : List UInt8) (hx : (10 : UInt8) ∉ x) : ∀ j, j ≤ x.length → lnQ (s ++ (x ++ t)) (s.length + j) = lnQ s s.length
 | 0, _ => lnQ_pre s _ _ (Nat.le_refl _)
 | j + 1, h => by
  rw [← Nat.add_assoc, lnQ, lnQ_in s x t hx j Yo, if_neg]
  simp only [Y8]
  rw [List.getElem?_append_right Yo, Nat.add_sub_cancel_left, List.getElem?_append_left Yo, Y9 Yo]
  intro e
  exact hx (e ▸ List.getElem_mem _)
theorem lnQ_lnsN : ∀ (n : Nat) (ls : List (List UInt8)), ls.length = n → (∀ x ∈ ls, (10 : UInt8) ∉ x) → lnQ (lnsT ls) (lnsT ls).length = (ls, (lnsT ls).length)
 | 0, ls, hn, _ => by
  obtain rfl : ls = [] := List.eq_nil_of_length_eq_zero hn
  rfl
 | n + 1, ls, hn, h => by
  obtain ⟨xs, x, rfl⟩ : ∃ xs x, ls = xs ++ [x] := ⟨ls.dropLast, ls.getLast (fun e => by rw [e] at hn; simp at hn), (List.dropLast_concat_getLast _).symm⟩
  have ih := lnQ_lnsN n xs (by simpa using hn) (fun y hy => h y (by simp [hy]))
  have e : lnsT (xs ++ [x]) = lnsT xs ++ (x ++ [10]) := by rw [lnsT_app]; simp [lnsT]
  have hl : (lnsT (xs ++ [x])).length = (lnsT xs).length + x.length + 1 := by rw [e, lla, lla]; simp; omega
  rw [hl, lnQ, e, lnQ_in _ _ _ (h x Ys) _ (Nat.le_refl _), ih, if_pos]
  ·congr 2
   unfold pieceL
   simp
  ·simp only [Y8]
   rw [List.getElem?_append_right Yo, Nat.add_sub_cancel_left, List.getElem?_append_right Yo, Nat.sub_self]; rfl
theorem lnQ_lns (ls : List (List UInt8)) (h : ∀ x ∈ ls, (10 : UInt8) ∉ x) : lnQ (lnsT ls) (lnsT ls).length = (ls, (lnsT ls).length) := lnQ_lnsN _ ls rfl h
def wdS (l : List UInt8) (q : Nat) (blank : Bool) : List (List UInt8) × Option Nat → List (List UInt8) × Option Nat
 | (out, none) => if blank then (out, none) else (out, some q)
 | (out, some a) => if blank then (out ++ [pieceL l a q], none) else (out, some a)
def blankQ (l : List UInt8) (q : Nat) : Bool := decide (q = l.length) || decide (l.getD q 0 = 32)
def wdQ (l : List UInt8) : Nat → List (List UInt8) × Option Nat
 | 0 => ([], none)
 | q + 1 => wdS l q (blankQ l q) (wdQ l q)
def opn (l : List UInt8) (q : Nat) : Option Nat → List UInt8
 | none => []
 | some a => pieceL l a q
theorem wdQ_le (l : List UInt8) : ∀ q, (wdQ l q).1.length ≤ q ∧ ∀ a, (wdQ l q).2 = some a → a < q
 | 0 => ⟨Nat.le_refl _, fun a h => by cases h⟩
 | q + 1 => by
  have ih := wdQ_le l q
  rw [wdQ]
  rcases hs : wdQ l q with ⟨out, st⟩
  rw [hs] at ih
  have i1 := ih.1
  have i2 := ih.2
  simp only at i1 i2
  cases st with
  | none =>
   cases hb : blankQ l q
   ·simp only [wdS, Bool.false_eq_true, if_false]
    exact ⟨Yo, fun a h => by injection h with h; omega⟩
   ·simp only [wdS, if_true]
    exact ⟨Yo, fun a h => by cases h⟩
  | some b =>
   have hb9 := i2 b rfl
   cases hb : blankQ l q
   ·simp only [wdS, Bool.false_eq_true, if_false]
    exact ⟨Yo, fun a h => by injection h with h; omega⟩
   ·simp only [wdS, if_true, lla, List.length_singleton]
    exact ⟨Yo, fun a h => by cases h⟩
theorem pieceL_grow (l : List UInt8) (a q : Nat) (ha : a ≤ q) (hq : q < l.length) : pieceL l a (q + 1) = pieceL l a q ++ [l.getD q 0] := by
 unfold pieceL
 rw [show q + 1 - a = (q - a) + 1 by omega, List.take_add_one, List.getElem?_drop, show a + (q - a) = q by omega, Y8, Y9 hq]; rfl
theorem pieceL_ne (l : List UInt8) (a q : Nat) (ha : a < q) (hq : q ≤ l.length) : pieceL l a q ≠ [] := by
 intro h
 have := congrArg List.length h
 unfold pieceL at this
 rw [List.length_take, List.length_drop] at this
 simp at this; omega
theorem wdQ_go (l : List UInt8) : ∀ q, q ≤ l.length → (wdQ l q).1 ++ wordsGo (opn l q (wdQ l q).2) (l.drop q) = wordsGo [] l
 | 0, _ => rfl
 | q + 1, h => by
  have ih := wdQ_go l q Yo
  have hle := wdQ_le l q
  rw [List.drop_eq_getElem_cons (show q < l.length by omega)] at ih
  have hg : l.getD q 0 = l[q] := by rw [Y8, Y9 Yo]; rfl
  rw [wdQ]
  rcases hs : wdQ l q with ⟨out, st⟩
  rw [hs] at ih hle
  have hbl : blankQ l q = decide (l[q] = 32) := by
   unfold blankQ; rw [hg, decide_eq_false (show ¬ q = l.length by omega), Bool.false_or]
  rw [hbl]
  by_cases hb : l[q] = 32
  ·rw [decide_eq_true hb]
   cases st with
   | none => simpa [wdS, opn, wordsGo, hb] using ih
   | some a =>
    have hne := pieceL_ne l a q (hle.2 a rfl) Yo
    simpa [wdS, opn, wordsGo, hb, hne] using ih
  ·rw [decide_eq_false hb]
   cases st with
   | none =>
    have e : pieceL l q (q + 1) = [l[q]] := by rw [pieceL_grow l q q (Nat.le_refl _) Yo, hg]; simp [pieceL]
    simpa [wdS, opn, wordsGo, hb, e] using ih
   | some a =>
    have e := pieceL_grow l a q (Nat.le_of_lt (hle.2 a rfl)) Yo
    rw [hg] at e
    simpa [wdS, opn, wordsGo, hb, e] using ih
theorem wdQ_end (l : List UInt8) : (wdQ l (l.length + 1)).1 = wordsGo [] l := by
 have h := wdQ_go l l.length (Nat.le_refl _)
 have hle := wdQ_le l l.length
 rw [List.drop_length] at h
 rw [wdQ, show blankQ l l.length = true by simp [blankQ]]
 rcases hs : wdQ l l.length with ⟨out, st⟩
 rw [hs] at h hle
 cases st with
 | none => simpa [wdS, opn, wordsGo] using h
 | some a =>
  have hne := pieceL_ne l a l.length (hle.2 a rfl) (Nat.le_refl _)
  simpa [wdS, opn, wordsGo, hne] using h
def dvQ (l : List UInt8) : Nat → Nat
 | 0 => 0
 | q + 1 => 10 * dvQ l q + ((l.getD q 0).toNat - 48)
theorem dvQ_pre (s t : List UInt8) : ∀ q, q ≤ s.length → dvQ (s ++ t) q = dvQ s q
 | 0, _ => rfl
 | q + 1, h => by
  rw [dvQ, dvQ, dvQ_pre s t q Yo]
  congr 3
  simp only [Y8]; rw [List.getElem?_append_left Yo]
theorem dvQ_dec (u : Nat) : dvQ (decDigits u) (decDigits u).length = u := by
 induction u using Nat.strongRecOn with
 | _ u ih =>
  by_cases h : u < 10
  ·rw [decDigits_one h]
   show 10 * 0 + ((UInt8.ofNat (48 + u)).toNat - 48) = u
   simp; omega
  ·rw [dec_ten h, decDigits_one (show u % 10 < 10 by omega), lla, List.length_singleton, dvQ, dvQ_pre _ _ _ (Nat.le_refl _), ih (u / 10) Yo]
   simp only [Y8]
   rw [List.getElem?_append_right (Nat.le_refl _), Nat.sub_self]
   simp; omega
theorem dvQ_mono (l : List UInt8) (q : Nat) : ∀ m, dvQ l q ≤ dvQ l (q + m)
 | 0 => Nat.le_refl _
 | m + 1 => by have := dvQ_mono l q m; rw [← Nat.add_assoc, dvQ]; omega
theorem dvQ_max (u q : Nat) (h : q ≤ (decDigits u).length) : dvQ (decDigits u) q ≤ u := by
 have := dvQ_mono (decDigits u) q ((decDigits u).length - q)
 rw [show q + ((decDigits u).length - q) = (decDigits u).length by omega, dvQ_dec] at this
 exact this
theorem dec_head (u : Nat) (h : 0 < u) : ((decDigits u).getD 0 0).toNat ≠ 48 := by
 induction u using Nat.strongRecOn with
 | _ u ih =>
  by_cases h1 : u < 10
  ·rw [decDigits_one h1]; simp; omega
  ·rw [dec_ten h1]
   simp only [Y8]
   rw [List.getElem?_append_left (List.length_pos_iff.2 (dec_ne _)), ← Y8]
   exact ih (u / 10) Yo Yo
set_option maxHeartbeats 32000000
set_option maxRecDepth 100000
def StRow (w : World) (base : Nat) (v : Value) (ws : List (List UInt8)) : Prop := w.ownsRow base 9 1 v ws.length (ws.map strV)
theorem StRow.nil {w : World} {base : Nat} : StRow w base (.slice none 0 0) [] := World.ownsRow_nil _ _ _ _
theorem infoStr : (Tryz.prog.info? 9).map (fun i => (i.zero, i.size, i.bytes)) = some (some (.string ⟨#[]⟩), 1, 16) := by kernel_rfl
theorem ext_piece (s : ByteArray) (a b : Nat) : s.extract a b = ⟨(pieceL s.data.toList a b).toArray⟩ := by
 have h := extract_data s a b
 unfold pieceL
 rw [← h]
theorem get_list (s : ByteArray) (q : Nat) (h : q < s.data.size) : s.data[q]'h = s.data.toList.getD q 0 := by
 rw [Y8, Y9 (by simpa using h)]; rfl
def LiRel (w : World) (s : ByteArray) (G : Nat) (o f i : Value) (wr : World) : Prop := ∃ (q : Nat) (A : Option Addr) (c : Nat), q ≤ s.size ∧ G = s.size - q ∧ i = .int .i64 q ∧ f = .int .i64 ((lnQ s.data.toList q).2 : Nat) ∧ o = .slice A (lnQ s.data.toList q).1.length c ∧ StRow wr w.heap.size (.slice A (lnQ s.data.toList q).1.length c) (lnQ s.data.toList q).1 ∧ Below w.heap.size w wr
def RowsR (w : World) (ws : List (List UInt8)) (e : Ending) (w' : World) : Prop := ∃ A c, e = .returned (.slice A ws.length c) ∧ StRow w' w.heap.size (.slice A ws.length c) ws ∧ Below w.heap.size w w'
theorem app_str {o : List (List UInt8)} {x : List UInt8} : (o ++ [x]).map strV = o.map strV ++ [strV x] := by simp
def fromV : Option Nat → Int
 | none => -1
 | some a => (a : Int)
def WoRel (w : World) (s : ByteArray) (G : Nat) (o f i : Value) (wr : World) : Prop := ∃ (q : Nat) (A : Option Addr) (c : Nat), q ≤ s.size + 1 ∧ G = s.size + 1 - q ∧ i = .int .i64 q ∧ f = .int .i64 (fromV (wdQ s.data.toList q).2) ∧ o = .slice A (wdQ s.data.toList q).1.length c ∧ StRow wr w.heap.size (.slice A (wdQ s.data.toList q).1.length c) (wdQ s.data.toList q).1 ∧ Below w.heap.size w wr
theorem rlines_any (s : ByteArray) (ls : List (List UInt8)) (hs : s.data.toList = lnsT ls) (hx : ∀ x ∈ ls, (10 : UInt8) ∉ x) (hz : s.size ≤ 100000) (w : World) :
  Calls Tryz.prog 55 #[.string s] w (RowsR w ls) := by
 have hend := lnQ_lns ls hx
 rw [← hs] at hend
 have hsl : s.data.toList.length = s.size := (size_eq s).symm
 rw [hsl] at hend
 have HEND := Yh hend; have HSL := Yh hsl
 clear hend hs hx hsl
 go_enter Tryz.func55, Tryz.ntmps55
 go_wp2
 go_loopg [3, 4, 5] s.size (fun G o f i wr => LiRel w s G o f i wr)
 case atStart => exact ⟨0, none, 0, Yo, Yo, rfl, rfl, rfl, StRow.nil, Below.refl _ _⟩
 case round =>
  obtain ⟨q, A, c, hq, rfl, rfl, rfl, rfl, hrow, KR⟩ := hrel
  have ZR := KR.size
  have hle := lnQ_le s.data.toList q
  have HROW := Yh hrow; have HKR := Yh KR
  clear hrow KR
  by_cases hlt : q < s.size
  ·have gq : decide ((q : Int) < (s.size : Int)) = true := Y2
   have gqn : decide (q < s.size) = true := decide_eq_true hlt
   have wq : IntKind.i64.wrap ((q : Int) + 1) = ((q + 1 : Nat) : Int) := Y4
   have hg := get_list s q hlt
   have hst : lnQ s.data.toList (q + 1) = if s.data.toList.getD q 0 = 10 then ((lnQ s.data.toList q).1 ++ [pieceL s.data.toList (lnQ s.data.toList q).2 q], q + 1) else lnQ s.data.toList q := rfl
   rw [← hg] at hst
   have hex := ext_piece s (lnQ s.data.toList q).2 q
   obtain ⟨pc, hpc⟩ : ∃ p, pieceL s.data.toList (lnQ s.data.toList q).2 q = p := ⟨_, rfl⟩
   rw [hpc] at hst hex
   have HST := Yh hst
   rcases hlq : lnQ s.data.toList q with ⟨ot, fr⟩
   rw [hlq] at hle hex hst HROW
   dsimp only at hle hex hst HROW ⊢
   obtain ⟨hle1, hle2⟩ := hle
   have hfq : (fr : Int) ≤ (q : Int) := by omega
   have hqs : (q : Int) ≤ (s.size : Int) := by omega
   have hqs2 : (q : Int) < (s.size : Int) := by omega
   obtain ⟨ln, hln⟩ : ∃ n, ot.length = n := ⟨_, rfl⟩
   rw [hln] at hle2 ⊢
   have HLN := Yh hln
   clear hln hlq hpc HST hg
   by_cases hb : s.data[q]'hlt = 10
   ·have hbn : (((s.data[q]'hlt).toNat : Int) == 10) = true := by rw [hb]; rfl
    have hbm : (((s[q]'hlt).toNat : Int) == 10) = true := hbn
    rw [if_pos hb] at hst
    have HST := Yh hst; clear hst hb
    obtain ⟨i0, hif, hz0, hz1, hz2⟩ := info_parts infoStr
    have hrl := World.ownsRow.lt HROW.out
    have HR9 : Hid (wr.ownsRow w.heap.size 9 1 (.slice A ln c) ln (ot.map strV)) := Yh (by have h := HROW.out; unfold StRow at h; rw [HLN.out] at h; exact h)
    rw [HLN.out] at hrl
    generalize hv : (Value.slice A ln c) = v9 at *
    clear hv HROW
    go_wp2_with (at_builtin; refine wpList_append_lies _ rfl _ _ 29 rfl w.heap.size 9 i0 (.string ⟨#[]⟩) 1 16 Tryz.underlying29 hif hz0 hz1 hz2 rfl Yd v9 ln (ot.map strV) rfl (World.ownsRow.alloc HR9.out _) ⟨wr.heap.size, 0, none⟩ 1 1 [strV pc] rfl rfl (World.news_of_block (t := 9) (fr := (0, 0)) (Blk.new _ _ _)) ?c2 Yd ?c3 ?c4 ?c5 _ rfl ?_)
    case c2 => first | exact ⟨rfl, trivial⟩ | (intro u hu; simp at hu; subst hu; rfl) | rfl
    case c3 => unfold maxLen; omega
    case c4 => omega
    case c5 => first | omega | (simp <;> omega)
    intro g7 cp7 w7 hown hgrow hlie hglt
    have K7 : Below w.heap.size w w7 := (Yc (show Below wr.heap.size wr _ from bl0) HKR.out).grown hgrow (by simp; omega) (fun k hk => (hrl k hk).1)
    have R7 : StRow w7 w.heap.size (.slice (some ⟨g7, 0, none⟩) (ot ++ [pc]).length cp7) (ot ++ [pc]) := by
     unfold StRow
     rw [lla, List.length_singleton, HLN.out, app_str]; exact hown
    have hl7 : (ot ++ [pc]).length = ln + 1 := by rw [lla, List.length_singleton, HLN.out]
    have H7 := Yh (Ya K7 (Ya R7 hl7))
    clear hown hgrow hlie hglt K7 R7 hl7
    go_wp2
    go_roundg (s.size - (q + 1))
    case measure => omega
    case rel => exact ⟨q + 1, _, _, Yo, Yo, by go_num, by rw [HST.out]; first | rfl | (go_num), by rw [HST.out]; show _ = Value.slice _ (ot ++ [pc]).length _; rw [H7.out.2.2], by rw [HST.out]; exact H7.out.2.1, H7.out.1⟩
   ·have hbt : (s.data[q]'hlt).toNat ≠ 10 := fun e => hb (UInt8.toNat_inj.1 e)
    have hbn : (((s.data[q]'hlt).toNat : Int) == 10) = false := Y5
    have hbm : (((s[q]'hlt).toNat : Int) == 10) = false := hbn
    rw [if_neg hb] at hst
    have HST := Yh hst; clear hst hb hbt hex
    go_wp2
    go_roundg (s.size - (q + 1))
    case measure => omega
    case rel => exact ⟨q + 1, A, c, Yo, Yo, by go_num, by rw [HST.out], by rw [HST.out]; show _ = Value.slice _ ot.length _; rw [HLN.out], by rw [HST.out]; exact HROW.out, HKR.out⟩
  ·obtain rfl : q = s.size := by omega
   have gq : decide ((s.size : Int) < (s.size : Int)) = false := Y3
   have gqn : decide (s.size < s.size) = false := Y3
   have hrow := HROW.out
   rw [HEND.out] at hrow ⊢
   dsimp only at hrow ⊢
   have HR2 := Yh hrow; clear hrow HROW hle
   go_wp2
   go_ret
   exact ⟨A, c, rfl, HR2.out, HKR.out⟩
theorem rwords_any (s : ByteArray) (hz : s.size ≤ 100000) (w : World) :
  Calls Tryz.prog 56 #[.string s] w (RowsR w (wordsGo [] s.data.toList)) := by
 have hend := wdQ_end s.data.toList
 have hsl : s.data.toList.length = s.size := (size_eq s).symm
 rw [hsl] at hend
 have HEND := Yh hend; have HSL := Yh hsl
 clear hend hsl
 go_enter Tryz.func56, Tryz.ntmps56
 go_wp2
 go_loopg [3, 4, 5] (s.size + 1) (fun G o f i wr => WoRel w s G o f i wr)
 case atStart => exact ⟨0, none, 0, Yo, Yo, rfl, rfl, rfl, StRow.nil, Below.refl _ _⟩
 case round =>
  obtain ⟨q, A, c, hq, rfl, rfl, rfl, rfl, hrow, KR⟩ := hrel
  have ZR := KR.size
  have hle := wdQ_le s.data.toList q
  have HROW := Yh hrow; have HKR := Yh KR
  clear hrow KR
  by_cases hlt : q < s.size + 1
  ·have gq : decide ((q : Int) ≤ (s.size : Int)) = true := Y2
   have gqn : decide (q ≤ s.size) = true := Y2
   have wq : IntKind.i64.wrap ((q : Int) + 1) = ((q + 1 : Nat) : Int) := Y4
   have hst : wdQ s.data.toList (q + 1) = wdS s.data.toList q (blankQ s.data.toList q) (wdQ s.data.toList q) := rfl
   have hbl : ∃ bl, blankQ s.data.toList q = bl ∧ (bl = true ↔ q = s.size ∨ ∃ h : q < s.data.size, s.data[q]'h = 32) := by
    refine ⟨_, rfl, ?_⟩
    unfold blankQ
    rw [HSL.out, Bool.or_eq_true, decide_eq_true_eq, decide_eq_true_eq]
    constructor
    ·rintro (h | h)
     ·exact .inl h
     ·by_cases h2 : q < s.data.size
      ·exact .inr ⟨h2, by rw [get_list s q h2]; exact h⟩
      ·rw [Y8, List.getElem?_eq_none (by simpa using h2)] at h; exact absurd h Yd
    ·rintro (h | ⟨h2, h⟩)
     ·exact .inl h
     ·exact .inr (by rw [← get_list s q h2]; exact h)
   obtain ⟨bl, hbl, hiff⟩ := hbl
   rw [hbl] at hst
   clear hbl
   have hex := fun a => ext_piece s a q
   rcases hlq : wdQ s.data.toList q with ⟨ot, st⟩
   rw [hlq] at hle hst HROW
   dsimp only at hle hst HROW ⊢
   obtain ⟨hle1, hle2⟩ := hle
   have hqs : (q : Int) ≤ (s.size : Int) := by omega
   obtain ⟨ln, hln⟩ : ∃ n, ot.length = n := ⟨_, rfl⟩
   rw [hln] at hle1 ⊢
   have HLN := Yh hln; have HST := Yh hst; have HEX := Yh hex; have HLE := Yh hle2
   clear hln hlq hst hex hle2
   obtain ⟨fv, hfv⟩ : ∃ v, fromV st = v := ⟨_, rfl⟩
   rw [hfv]
   go_upto_region 6 with fail
   go_cut [6] (fun b wx => b = .bool bl ∧ wx = wr)
   case first =>
    by_cases hqe : q = s.size
    ·have g1 : ((q : Int) == (s.size : Int)) = true := by rw [beq_iff_eq]; omega
     have g2 : decide ((q : Int) = (s.size : Int)) = true := Y2
     have hb1 : bl = true := hiff.2 (.inl hqe)
     have HQE := Yh hqe; clear hqe hiff
     go_wp2_with fail
     go_meet
     exact ⟨by rw [hb1], rfl⟩
    ·have hlt2 : q < s.size := by omega
     have g1 : ((q : Int) == (s.size : Int)) = false := Y5
     have g2 : decide ((q : Int) = (s.size : Int)) = false := Y3
     have gl : (q : Int) < (s.size : Int) := by omega
     by_cases hb : s.data[q]'hlt2 = 32
     ·have hb1 : bl = true := hiff.2 (.inr ⟨hlt2, hb⟩)
      have hbn : (((s.data[q]'hlt2).toNat : Int) == 32) = true := by rw [hb]; rfl
      have hbm : (((s[q]'hlt2).toNat : Int) == 32) = true := hbn
      clear hiff hb hqe
      go_wp2_with fail
      go_meet
      exact ⟨by rw [hb1], rfl⟩
     ·have hb1 : bl = false := by
       rcases e : bl
       ·rfl
       ·exact absurd (hiff.1 e) (by rintro (h | ⟨h2, h⟩); exact hqe h; exact hb h)
      have hbt : (s.data[q]'hlt2).toNat ≠ 32 := fun e => hb (UInt8.toNat_inj.1 e)
      have hbn : (((s.data[q]'hlt2).toNat : Int) == 32) = false := Y5
      have hbm : (((s[q]'hlt2).toNat : Int) == 32) = false := hbn
      clear hiff hb hbt hqe
      go_wp2_with fail
      go_meet
      exact ⟨by rw [hb1], rfl⟩
   case rest =>
    obtain ⟨rfl, rfl⟩ := hcut
    clear hiff
    have wn9 : ((-1 : Int) < 0) := by decide
    cases st with
    | none =>
     have hf1 : fv = -1 := hfv.symm
     subst hf1
     clear hfv
     cases bl with
     | true =>
      go_wp2
      go_roundg (s.size + 1 - (q + 1))
      case measure => omega
      case rel => exact ⟨q + 1, A, c, Yo, Yo, by go_num, by rw [HST.out]; rfl, by rw [HST.out]; show _ = Value.slice _ ot.length _; rw [HLN.out], by rw [HST.out]; exact HROW.out, HKR.out⟩
     | false =>
      go_wp2
      go_roundg (s.size + 1 - (q + 1))
      case measure => omega
      case rel => exact ⟨q + 1, A, c, Yo, Yo, by go_num, by rw [HST.out]; rfl, by rw [HST.out]; show _ = Value.slice _ ot.length _; rw [HLN.out], by rw [HST.out]; exact HROW.out, HKR.out⟩
    | some a =>
     have ha := HLE.out a rfl
     have hf1 : fv = (a : Int) := hfv.symm
     subst hf1
     clear hfv
     have gn : decide ((a : Int) < 0) = false := Y3
     have gp : decide (0 ≤ (a : Int)) = true := Y2
     have gp2 : decide ((a : Int) ≥ 0) = true := Y2
     cases bl with
     | false =>
      go_wp2
      go_roundg (s.size + 1 - (q + 1))
      case measure => omega
      case rel => exact ⟨q + 1, A, c, Yo, Yo, by go_num, by rw [HST.out]; rfl, by rw [HST.out]; show _ = Value.slice _ ot.length _; rw [HLN.out], by rw [HST.out]; exact HROW.out, HKR.out⟩
     | true =>
      have hex := HEX.out a
      obtain ⟨pc, hpc⟩ : ∃ p, pieceL s.data.toList a q = p := ⟨_, rfl⟩
      rw [hpc] at hex
      have HS2 := Yh (show wdQ s.data.toList (q + 1) = (ot ++ [pc], none) from by rw [HST.out, ← hpc]; rfl)
      have haq : (a : Int) ≤ (q : Int) := by omega
      clear hpc HST
      obtain ⟨i0, hif, hz0, hz1, hz2⟩ := info_parts infoStr
      have hrl := World.ownsRow.lt HROW.out
      have HR9 : Hid (wc.ownsRow w.heap.size 9 1 (.slice A ln c) ln (ot.map strV)) := Yh (by have h := HROW.out; unfold StRow at h; rw [HLN.out] at h; exact h)
      rw [HLN.out] at hrl
      generalize hv : (Value.slice A ln c) = v9 at *
      clear hv HROW
      go_wp2_with (at_builtin; refine wpList_append_lies _ rfl _ _ 29 rfl w.heap.size 9 i0 (.string ⟨#[]⟩) 1 16 Tryz.underlying29 hif hz0 hz1 hz2 rfl Yd v9 ln (ot.map strV) rfl (World.ownsRow.alloc HR9.out _) ⟨wc.heap.size, 0, none⟩ 1 1 [strV pc] rfl rfl (World.news_of_block (t := 9) (fr := (0, 0)) (Blk.new _ _ _)) ?c2 Yd ?c3 ?c4 ?c5 _ rfl ?_)
      case c2 => first | exact ⟨rfl, trivial⟩ | (intro u hu; simp at hu; subst hu; rfl) | rfl
      case c3 => unfold maxLen; omega
      case c4 => omega
      case c5 => first | omega | (simp <;> omega)
      intro g7 cp7 w7 hown hgrow hlie hglt
      have K7 : Below w.heap.size w w7 := (Yc (show Below wc.heap.size wc _ from bl0) HKR.out).grown hgrow (by simp; omega) (fun k hk => (hrl k hk).1)
      have R7 : StRow w7 w.heap.size (.slice (some ⟨g7, 0, none⟩) (ot ++ [pc]).length cp7) (ot ++ [pc]) := by
       unfold StRow
       rw [lla, List.length_singleton, HLN.out, app_str]; exact hown
      have hl7 : (ot ++ [pc]).length = ln + 1 := by rw [lla, List.length_singleton, HLN.out]
      have H7 := Yh (Ya K7 (Ya R7 hl7))
      clear hown hgrow hlie hglt K7 R7 hl7
      go_wp2
      go_roundg (s.size + 1 - (q + 1))
      case measure => omega
      case rel => exact ⟨q + 1, _, _, Yo, Yo, by go_num, by rw [HS2.out]; rfl, by rw [HS2.out]; show _ = Value.slice _ (ot ++ [pc]).length _; rw [H7.out.2.2], by rw [HS2.out]; exact H7.out.2.1, H7.out.1⟩
  ·obtain rfl : q = s.size + 1 := by omega
   have gq : decide (((s.size + 1 : Nat) : Int) ≤ (s.size : Int)) = false := Y3
   have gq2 : decide ((s.size : Int) + 1 ≤ (s.size : Int)) = false := Y3
   have gqn : decide (s.size + 1 ≤ s.size) = false := Y3
   have hrow := HROW.out
   rw [HEND.out] at hrow ⊢
   have HR2 := Yh hrow; clear hrow HROW hle
   go_wp2
   go_ret
   exact ⟨A, c, rfl, HR2.out, HKR.out⟩
def NuRel (w : World) (s : ByteArray) (G : Nat) (v i : Value) (wr : World) : Prop := ∃ q : Nat, q ≤ s.size ∧ G = s.size - q ∧ i = .int .i64 q ∧ v = .int .u64 ((dvQ s.data.toList q : Nat) : Int) ∧ Below w.heap.size w wr
theorem bytes_toList (s : ByteArray) : s.toList = s.data.toList := by first | rfl | simp | exact ByteArray.toList_eq s | exact (ByteArray.data_toList).symm
theorem bytes_of {s : ByteArray} {l : List UInt8} (h : s.data.toList = l) : s = ⟨l.toArray⟩ := by rw [← h]
theorem dig_ch {u q : Nat} (h : q < (decDigits u).length) : 48 ≤ ((decDigits u).getD q 0).toNat ∧ ((decDigits u).getD q 0).toNat ≤ 57 := by
 rw [Y8, Y9 h]
 exact dec_chars u _ (List.getElem_mem _)
theorem u64_idN {z : Int} (h0 : 0 ≤ z) (h1 : z < 18446744073709551616) : IntKind.u64.wrap z = z := by
 simp [IntKind.wrap, IntKind.bits, IntKind.signed]; omega
theorem u8_idN {z : Int} (h0 : 0 ≤ z) (h1 : z < 256) : IntKind.u8.wrap z = z := by
 simp [IntKind.wrap, IntKind.bits, IntKind.signed]; omega
theorem dec_len17 {u : Nat} (h : u < 100000000000000000) : (decDigits u).length ≤ 17 := by
 have := (itoa_len (u : Int) 17 Yo Yo Yo).1
 have h1 := (itoa_len (u : Int) 17 Yo Yo Yo).2
 unfold itoa at h1 this
 rw [if_neg Yo, Int.toNat_natCast] at h1 this
 first | omega | exact h1 Yo
theorem rnum_pos (s : ByteArray) (u : Nat) (hs : s.data.toList = decDigits u) (h0 : 0 < u) (h1 : u < 100000000000000000) (w : World) :
  Calls Tryz.prog 78 #[.string s] w (RB w (.tuple #[.int .i64 u, .bool true])) := by
 have hne : s ≠ ⟨#[48]⟩ := fun e => by
  rw [e] at hs
  have h9 := dec_head u h0
  rw [← hs] at h9
  exact h9 rfl
 have e1 : (s == (⟨#[48]⟩ : ByteArray)) = false := by
  show (s.data == #[48]) = false
  rw [beq_eq_false_iff_ne]; exact fun e2 => hne (by cases s; simp at e2; rw [e2])
 have e2 : decide (s = (⟨#[48]⟩ : ByteArray)) = false := decide_eq_false hne
 have e3 : (s.toList == [48]) = false := by
  have h9 : s.toList = s.data.toList := bytes_toList s
  rw [h9, beq_eq_false_iff_ne]; exact fun e => hne (bytes_of e)
 have hch := fun q (h : q < (decDigits u).length) => dig_ch h
 have hmx := fun q (h : q ≤ (decDigits u).length) => dvQ_max u q h
 have hu := dvQ_dec u
 have hh := dec_head u h0
 have hl := dec_len17 h1
 have hl0 : 0 < (decDigits u).length := List.length_pos_iff.2 (dec_ne u)
 have hsz : (decDigits u).length = s.size := by rw [← hs]; exact (size_eq s).symm
 rw [hsz] at hch hmx hu hl hl0
 rw [← hs] at hch hmx hu hh
 have hh2 : s.data.toList.getD 0 0 = s[0]'hl0 := (get_list s 0 hl0).symm
 have hh3 := hch 0 hl0
 rw [hh2] at hh hh3
 have HCH := Yh hch; have HMX := Yh hmx; have HU := Yh hu
 clear hch hmx hu hsz hh2
 have a1 : decide ((s.size : Int) < 1) = false := Y3
 have a2 : decide ((s.size : Int) > 19) = false := Y3
 have a3 : decide (19 < (s.size : Int)) = false := Y3
 have a4 : (((s[0]'hl0).toNat : Int) == 48) = false := Y5
 have a5 : decide ((s.size : Int) > 0) = true := Y2
 have a6 : decide (0 < (s.size : Int)) = true := Y2
 have a7 : (0 : Int) < (s.size : Int) := by omega
 have a8 : (((s[0]'hl0).toNat : Int) == 45) = false := Y5
 clear hh hh3 hs hne
 go_enter Tryz.func78, Tryz.ntmps78
 go_wp2
 go_loopg [5, 6] s.size (fun G v i wr => NuRel w s G v i wr)
 case atStart => exact ⟨0, Yo, Yo, rfl, rfl, Below.refl _ _⟩
 case round =>
  obtain ⟨q, hq, rfl, rfl, rfl, KR⟩ := hrel
  have ZR := KR.size
  have HKR := Yh KR
  clear KR
  by_cases hlt : q < s.size
  ·have gq : decide ((q : Int) < (s.size : Int)) = true := Y2
   have gqn : decide (q < s.size) = true := decide_eq_true hlt
   have wq : IntKind.i64.wrap ((q : Int) + 1) = ((q + 1 : Nat) : Int) := Y4
   obtain ⟨c0, c1⟩ := HCH.out q hlt
   have hst : dvQ s.data.toList (q + 1) = 10 * dvQ s.data.toList q + ((s.data.toList.getD q 0).toNat - 48) := rfl
   have hmx := HMX.out (q + 1) Yo
   have hgl : s.data.toList.getD q 0 = s[q]'hlt := (get_list s q hlt).symm
   rw [hgl] at c0 c1 hst
   obtain ⟨d9, hd9⟩ : ∃ d, dvQ s.data.toList q = d := ⟨_, rfl⟩
   obtain ⟨d8, hd8⟩ : ∃ d, dvQ s.data.toList (q + 1) = d := ⟨_, rfl⟩
   obtain ⟨cc, hcc⟩ : ∃ c, (s[q]'hlt).toNat = c := ⟨_, rfl⟩
   rw [hd9, hd8, hcc] at hst
   rw [hcc] at c0 c1
   rw [hd8] at hmx
   rw [hd9]
   have g1 : decide ((cc : Int) < 48) = false := Y3
   have g2 : decide ((cc : Int) > 57) = false := Y3
   have g3 : decide (57 < (cc : Int)) = false := Y3
   have w1 : IntKind.u64.wrap (10 * (d9 : Int)) = 10 * (d9 : Int) := u64_idN Yo Yo
   have w2 : IntKind.u8.wrap ((cc : Int) - 48) = (cc : Int) - 48 := u8_idN Yo Yo
   have w3 : IntKind.u64.wrap ((cc : Int) - 48) = (cc : Int) - 48 := u64_idN Yo Yo
   have w4 : IntKind.u64.wrap (10 * (d9 : Int) + ((cc : Int) - 48)) = (d8 : Int) := by rw [u64_idN Yo Yo]; omega
   have HD8 := Yh hd8
   clear hst hd8 hgl hd9 hmx
   go_wp2
   go_roundg (s.size - (q + 1))
   case measure => omega
   case rel => exact ⟨q + 1, Yo, Yo, by go_num, by rw [HD8.out], HKR.out⟩
  ·obtain rfl : q = s.size := by omega
   have gq : decide ((s.size : Int) < (s.size : Int)) = false := Y3
   have gqn : decide (s.size < s.size) = false := Y3
   rw [HU.out]
   have g1 : decide ((u : Int) > 1152921504606846976) = false := Y3
   have g2 : decide (1152921504606846976 < (u : Int)) = false := Y3
   have w1 : IntKind.i64.wrap (u : Int) = (u : Int) := IntWalk.i64_in _ Yo
   have w2 : IntKind.i64.wrap (-(u : Int)) = -(u : Int) := IntWalk.i64_in _ Yo
   go_wp2
   exact Yb (v := .tuple #[.int .i64 (u : Int), .bool true]) (by simp [results, Tryz.results78, go_sem, *]) rfl ⟨rfl, HKR.out⟩
theorem rnum_neg (S s : ByteArray) (u : Nat) (hS : S.data.toList = 45 :: decDigits u) (hs : s.data.toList = decDigits u) (h0 : 0 < u) (h1 : u < 100000000000000000) (w : World) :
  Calls Tryz.prog 78 #[.string S] w (RB w (.tuple #[.int .i64 (-(u : Int)), .bool true])) := by
 have hne : S ≠ ⟨#[48]⟩ := fun e => by
  rw [e] at hS
  simp at hS
 have e1 : (S == (⟨#[48]⟩ : ByteArray)) = false := by
  show (S.data == #[48]) = false
  rw [beq_eq_false_iff_ne]; exact fun e2 => hne (by cases S; simp at e2; rw [e2])
 have e2 : decide (S = (⟨#[48]⟩ : ByteArray)) = false := decide_eq_false hne
 have e3 : (S.toList == [48]) = false := by
  have h9 : S.toList = S.data.toList := bytes_toList S
  rw [h9, beq_eq_false_iff_ne]; exact fun e => hne (bytes_of e)
 have hSz : S.size = s.size + 1 := by rw [size_eq S, size_eq s, hS, hs]; rfl
 have hSl0 : 0 < S.size := by omega
 have hS0 : (((S[0]'hSl0).toNat : Int) == 45) = true := by
  have h9 : S[0]'hSl0 = S.data.toList.getD 0 0 := get_list S 0 hSl0
  rw [h9, hS]; rfl
 have hex : S.extract 1 S.size = s := by
  rw [ext_piece]; unfold pieceL; rw [hS, List.drop_succ_cons, List.drop_zero, List.take_of_length_le (by rw [← hs, ← size_eq s]; omega), ← hs]
 have b5 : decide ((S.size : Int) > 0) = true := Y2
 have b6 : decide (0 < (S.size : Int)) = true := Y2
 have b7 : (0 : Int) < (S.size : Int) := by omega
 have b8 : (1 : Int) ≤ (S.size : Int) := by omega
 have hch := fun q (h : q < (decDigits u).length) => dig_ch h
 have hmx := fun q (h : q ≤ (decDigits u).length) => dvQ_max u q h
 have hu := dvQ_dec u
 have hh := dec_head u h0
 have hl := dec_len17 h1
 have hl0 : 0 < (decDigits u).length := List.length_pos_iff.2 (dec_ne u)
 have hsz : (decDigits u).length = s.size := by rw [← hs]; exact (size_eq s).symm
 rw [hsz] at hch hmx hu hl hl0
 rw [← hs] at hch hmx hu hh
 have hh2 : s.data.toList.getD 0 0 = s[0]'hl0 := (get_list s 0 hl0).symm
 have hh3 := hch 0 hl0
 rw [hh2] at hh hh3
 have HCH := Yh hch; have HMX := Yh hmx; have HU := Yh hu
 clear hch hmx hu hsz hh2
 have a1 : decide ((s.size : Int) < 1) = false := Y3
 have a2 : decide ((s.size : Int) > 19) = false := Y3
 have a3 : decide (19 < (s.size : Int)) = false := Y3
 have a4 : (((s[0]'hl0).toNat : Int) == 48) = false := Y5
 have a5 : decide ((s.size : Int) > 0) = true := Y2
 have a6 : decide (0 < (s.size : Int)) = true := Y2
 have a7 : (0 : Int) < (s.size : Int) := by omega
 have a8 : (((s[0]'hl0).toNat : Int) == 45) = false := Y5
 clear hh hh3 hs hne hS hSz
 go_enter Tryz.func78, Tryz.ntmps78
 go_wp2
 go_loopg [5, 6] s.size (fun G v i wr => NuRel w s G v i wr)
 case atStart => exact ⟨0, Yo, Yo, rfl, rfl, Below.refl _ _⟩
 case round =>
  obtain ⟨q, hq, rfl, rfl, rfl, KR⟩ := hrel
  have ZR := KR.size
  have HKR := Yh KR
  clear KR
  by_cases hlt : q < s.size
  ·have gq : decide ((q : Int) < (s.size : Int)) = true := Y2
   have gqn : decide (q < s.size) = true := decide_eq_true hlt
   have wq : IntKind.i64.wrap ((q : Int) + 1) = ((q + 1 : Nat) : Int) := Y4
   obtain ⟨c0, c1⟩ := HCH.out q hlt
   have hst : dvQ s.data.toList (q + 1) = 10 * dvQ s.data.toList q + ((s.data.toList.getD q 0).toNat - 48) := rfl
   have hmx := HMX.out (q + 1) Yo
   have hgl : s.data.toList.getD q 0 = s[q]'hlt := (get_list s q hlt).symm
   rw [hgl] at c0 c1 hst
   obtain ⟨d9, hd9⟩ : ∃ d, dvQ s.data.toList q = d := ⟨_, rfl⟩
   obtain ⟨d8, hd8⟩ : ∃ d, dvQ s.data.toList (q + 1) = d := ⟨_, rfl⟩
   obtain ⟨cc, hcc⟩ : ∃ c, (s[q]'hlt).toNat = c := ⟨_, rfl⟩
   rw [hd9, hd8, hcc] at hst
   rw [hcc] at c0 c1
   rw [hd8] at hmx
   rw [hd9]
   have g1 : decide ((cc : Int) < 48) = false := Y3
   have g2 : decide ((cc : Int) > 57) = false := Y3
   have g3 : decide (57 < (cc : Int)) = false := Y3
   have w1 : IntKind.u64.wrap (10 * (d9 : Int)) = 10 * (d9 : Int) := u64_idN Yo Yo
   have w2 : IntKind.u8.wrap ((cc : Int) - 48) = (cc : Int) - 48 := u8_idN Yo Yo
   have w3 : IntKind.u64.wrap ((cc : Int) - 48) = (cc : Int) - 48 := u64_idN Yo Yo
   have w4 : IntKind.u64.wrap (10 * (d9 : Int) + ((cc : Int) - 48)) = (d8 : Int) := by rw [u64_idN Yo Yo]; omega
   have HD8 := Yh hd8
   clear hst hd8 hgl hd9 hmx
   go_wp2
   go_roundg (s.size - (q + 1))
   case measure => omega
   case rel => exact ⟨q + 1, Yo, Yo, by go_num, by rw [HD8.out], HKR.out⟩
  ·obtain rfl : q = s.size := by omega
   have gq : decide ((s.size : Int) < (s.size : Int)) = false := Y3
   have gqn : decide (s.size < s.size) = false := Y3
   rw [HU.out]
   have g1 : decide ((u : Int) > 1152921504606846976) = false := Y3
   have g2 : decide (1152921504606846976 < (u : Int)) = false := Y3
   have w1 : IntKind.i64.wrap (u : Int) = (u : Int) := IntWalk.i64_in _ Yo
   have w2 : IntKind.i64.wrap (-(u : Int)) = -(u : Int) := IntWalk.i64_in _ Yo
   go_wp2
   exact Yb (v := .tuple #[.int .i64 (-(u : Int)), .bool true]) (by simp [results, Tryz.results78, go_sem, *]) rfl ⟨rfl, HKR.out⟩
theorem rnum_zero  (w : World) :
  Calls Tryz.prog 78 #[.string ⟨#[48]⟩] w (RB w (.tuple #[.int .i64 0, .bool true])) := by
 go_enter Tryz.func78, Tryz.ntmps78
 go_wp2
 exact Yb (v := .tuple #[.int .i64 0, .bool true]) (by simp [results, Tryz.results78, go_sem, *]) rfl ⟨rfl, Below.refl _ _⟩
theorem rnum_007  (w : World) :
  Calls Tryz.prog 78 #[.string ⟨#[48, 48, 55]⟩] w (RB w (.tuple #[.int .i64 0, .bool false])) := by
 go_enter Tryz.func78, Tryz.ntmps78
 go_wp2
 exact Yb (v := .tuple #[.int .i64 0, .bool false]) (by simp [results, Tryz.results78, go_sem, *]) rfl ⟨rfl, Below.refl _ _⟩
def numR : Option Int → Value
 | some n => .tuple #[.int .i64 n, .bool true]
 | none => .tuple #[.int .i64 0, .bool false]
theorem rnum_any (x : List UInt8) (h : NumW x) (w : World) : Calls Tryz.prog 78 #[.string ⟨x.toArray⟩] w (RB w (numR (intW x))) := by
 rcases h with ⟨n, hn, rfl⟩ | rfl
 ·rw [intW_itoa hn]
  obtain ⟨hn0, hn1⟩ := hn
  by_cases h0 : n < 0
  ·obtain ⟨u, hu⟩ : ∃ u : Nat, n.natAbs = u := ⟨_, rfl⟩
   have hi : itoa n = 45 :: decDigits u := by unfold itoa; rw [if_pos h0, hu]
   rw [hi]
   have r := rnum_neg ⟨(45 :: decDigits u).toArray⟩ ⟨(decDigits u).toArray⟩ u Ys Ys Yo Yo w
   rw [show -(u : Int) = n by omega] at r
   exact r
  ·obtain ⟨u, rfl⟩ : ∃ u : Nat, n = u := ⟨n.toNat, Yo⟩
   have hi : itoa (u : Int) = decDigits u := by unfold itoa; rw [if_neg h0, Int.toNat_natCast]
   rw [hi]
   by_cases hz : u = 0
   ·subst hz
    rw [show decDigits 0 = [48] from by rw [decDigits_one Yd]; rfl]
    exact rnum_zero w
   ·exact rnum_pos ⟨(decDigits u).toArray⟩ u Ys Yo Yo w
 ·have h7 : intW [48, 48, 55] = none := by rw [intW_of (n := 7) Yd rfl]; simp [itoa, decDigits]
  rw [h7]
  exact rnum_007 w
def formI (x : List UInt8) : Int := match cmdOf x with
 | none => -1
 | some c => c.count
theorem cmdOf_no {x : List UInt8} (h : cmdOf x = none) : x ≠ wSources ∧ x ≠ wDrift ∧ x ≠ wSample ∧ x ≠ wNow ∧ x ≠ wRead ∧ x ≠ wUtc ∧ x ≠ wSave := by
 refine ⟨?_, ?_, ?_, ?_, ?_, ?_, ?_⟩ <;> (rintro rfl; simp [cmdOf, wSources, wDrift, wSample, wNow, wRead, wUtc, wSave] at h)
theorem cmdOf_word {x : List UInt8} {c : Cmd} (h : cmdOf x = some c) : x = c.word := by
 unfold cmdOf at h
 repeat' split at h
 all_goals first | (injection h with h; subst h; assumption) | cases h
theorem neq_list {s : ByteArray} {x y : List UInt8} (hs : s.data.toList = x) (h : x ≠ y) : (s.toList == y) = false := by
 rw [bytes_toList, hs, beq_eq_false_iff_ne]; exact h
theorem rform_none (s : ByteArray) (x : List UInt8) (hs : s.data.toList = x) (h : cmdOf x = none) (w : World) :
  Calls Tryz.prog 77 #[.string s] w (RB w (.int .i64 (-1))) := by
 obtain ⟨h1, h2, h3, h4, h5, h6, h7⟩ := cmdOf_no h
 have e1 := neq_list hs h1; have e2 := neq_list hs h2; have e3 := neq_list hs h3; have e4 := neq_list hs h4; have e5 := neq_list hs h5; have e6 := neq_list hs h6; have e7 := neq_list hs h7
 simp only [wSources, wDrift, wSample, wNow, wRead, wUtc, wSave] at e1 e2 e3 e4 e5 e6 e7
 clear h1 h2 h3 h4 h5 h6 h7 h hs
 go_enter Tryz.func77, Tryz.ntmps77
 go_wp2
 go_ret
 exact ⟨rfl, bl0⟩
theorem rform_sources  (w : World) :
  Calls Tryz.prog 77 #[.string ⟨#[115, 111, 117, 114, 99, 101, 115]⟩] w (RB w (.int .i64 2)) := by
 go_enter Tryz.func77, Tryz.ntmps77
 go_wp2
 go_ret
 exact ⟨rfl, bl0⟩
theorem rform_drift  (w : World) :
  Calls Tryz.prog 77 #[.string ⟨#[100, 114, 105, 102, 116]⟩] w (RB w (.int .i64 1)) := by
 go_enter Tryz.func77, Tryz.ntmps77
 go_wp2
 go_ret
 exact ⟨rfl, bl0⟩
theorem rform_sample  (w : World) :
  Calls Tryz.prog 77 #[.string ⟨#[115, 97, 109, 112, 108, 101]⟩] w (RB w (.int .i64 6)) := by
 go_enter Tryz.func77, Tryz.ntmps77
 go_wp2
 go_ret
 exact ⟨rfl, bl0⟩
theorem rform_now  (w : World) :
  Calls Tryz.prog 77 #[.string ⟨#[110, 111, 119]⟩] w (RB w (.int .i64 1)) := by
 go_enter Tryz.func77, Tryz.ntmps77
 go_wp2
 go_ret
 exact ⟨rfl, bl0⟩
theorem rform_read  (w : World) :
  Calls Tryz.prog 77 #[.string ⟨#[114, 101, 97, 100]⟩] w (RB w (.int .i64 2)) := by
 go_enter Tryz.func77, Tryz.ntmps77
 go_wp2
 go_ret
 exact ⟨rfl, bl0⟩
theorem rform_utc  (w : World) :
  Calls Tryz.prog 77 #[.string ⟨#[117, 116, 99]⟩] w (RB w (.int .i64 1)) := by
 go_enter Tryz.func77, Tryz.ntmps77
 go_wp2
 go_ret
 exact ⟨rfl, bl0⟩
theorem rform_save  (w : World) :
  Calls Tryz.prog 77 #[.string ⟨#[115, 97, 118, 101]⟩] w (RB w (.int .i64 3)) := by
 go_enter Tryz.func77, Tryz.ntmps77
 go_wp2
 go_ret
 exact ⟨rfl, bl0⟩
theorem rform_any (x : List UInt8) (w : World) : Calls Tryz.prog 77 #[.string ⟨x.toArray⟩] w (RB w (.int .i64 (formI x))) := by
 unfold formI
 rcases hc : cmdOf x with _ | c
 ·exact rform_none _ x rfl hc w
 ·obtain rfl := cmdOf_word hc
  cases c
  ·exact rform_sources w
  ·exact rform_drift w
  ·exact rform_sample w
  ·exact rform_now w
  ·exact rform_read w
  ·exact rform_utc w
  ·exact rform_save w
def parO (ws : List (List UInt8)) : Option (List Int) := match cmdOf (ws.getD 0 []) with
 | none => none
 | some c => if ws.length = 1 + c.count then intsW ws.tail else none
def PaRel (w : World) (ws : List (List UInt8)) (gW : Nat) (cw : Array Value) (N : Nat) (G : Nat) (v i : Value) (wr : World) : Prop := ∃ (q : Nat) (A : Option Addr) (c : Nat) (zs : List Int), q ≤ N ∧ G = N - q ∧ i = .int .i64 ((q + 1 : Nat) : Int) ∧ v = .slice A q c ∧ zs.length = q ∧ intsW (ws.take q) = some zs ∧ RowN wr w.heap.size (.slice A q c) zs ∧ Blk wr gW 9 cw ∧ Below w.heap.size w wr
def ParR (w : World) (o : Option (List Int)) (e : Ending) (w' : World) : Prop := match o with
 | none => e = .returned (.tuple #[.slice none 0 0, .bool false]) ∧ Below w.heap.size w w'
 | some zs => ∃ A c, e = .returned (.tuple #[.slice A zs.length c, .bool true]) ∧ RowN w' w.heap.size (.slice A zs.length c) zs ∧ Below w.heap.size w w'
theorem parO_no {ws : List (List UInt8)} (h0 : 0 < ws.length) (h : formI (ws.getD 0 []) ≠ (ws.length : Int) - 1) : parO ws = none := by
 unfold parO formI at *
 rcases hc : cmdOf (ws.getD 0 []) with _ | c
 ·rfl
 ·rw [hc] at h
  simp only at h ⊢
  rw [if_neg Yo]
theorem parO_yes {ws : List (List UInt8)} (h0 : 0 < ws.length) (h : formI (ws.getD 0 []) = (ws.length : Int) - 1) : parO ws = intsW ws.tail := by
 unfold parO formI at *
 rcases hc : cmdOf (ws.getD 0 []) with _ | c
 ·rw [hc] at h; simp only at h; omega
 ·rw [hc] at h
  simp only at h ⊢
  rw [if_pos Yo]
theorem rparse_any (gW len c9 : Nat) (ws : List (List UInt8)) (h0 : 0 < len) (hl9 : len ≤ 100000) (hg : ∀ x ∈ ws.tail, NumW x) (w : World) (hw : StrR w gW len ws) :
  Calls Tryz.prog 57 #[.slice (some ⟨gW, 0, none⟩) len c9] w (ParR w (parO ws)) := by
 obtain ⟨hwl, cw, hWb, hWc⟩ := hw
 have HWC := Yh hWc; have HG := Yh hg
 have d0 := (hWb.cell 0).trans (hWc 0 h0)
 have RF := Yh (fun W => rform_any (ws.getD 0 []) W)
 have hno := parO_no (ws := ws) Yo; have hyes := parO_yes (ws := ws) Yo
 rw [hwl] at hno hyes
 obtain ⟨fi, hfi⟩ : ∃ f, formI (ws.getD 0 []) = f := ⟨_, rfl⟩
 rw [hfi] at RF hno hyes
 obtain ⟨w0, hw0⟩ : ∃ x, ws.getD 0 [] = x := ⟨_, rfl⟩
 rw [hw0] at RF d0
 unfold strV at d0
 have hwg := hWb.lt
 have HWB := Yh hWb
 clear hWb hWc hg hfi hw0
 have i0 : (0 : Int) < (len : Int) := by omega
 obtain ⟨N, hN⟩ : ∃ N, len = N + 1 := ⟨len - 1, Yo⟩
 have wN : IntKind.i64.wrap ((len : Int) - 1) = (N : Int) := Y4
 have hNl : (len : Int) - 1 = (N : Int) := by omega
 rw [hNl] at hno hyes
 by_cases hm : fi = (N : Int)
 ·subst hm
  have ho := hyes rfl
  clear hno hyes
  have hlen := Yh hN
  have hN2 : ws.tail.length = N := by rw [List.length_tail, hwl]; omega
  have HTL := Yh (show ∀ q, q < N → ws.getD (q + 1) [] = ws.tail.getD q [] from fun q hq => by
   obtain ⟨a9, l9, rfl⟩ : ∃ a l, ws = a :: l := by
    cases ws with
    | nil => simp at hwl; omega
    | cons a l => exact ⟨a, l, rfl⟩
   rfl)
  have hwl2 : len ≤ N + 1 ∧ N + 1 ≤ len := by omega
  obtain ⟨tl, htl⟩ : ∃ t, ws.tail = t := ⟨_, rfl⟩
  rw [htl] at ho HTL hN2 HG
  rw [ho]
  have HN2 := Yh hN2
  clear hN htl ho hN2 hNl hwl
  have gne : decide ((N : Int) ≠ (N : Int)) = false := by simp
  go_enter Tryz.func57, Tryz.ntmps57
  go_wp2_with fail
  refine (RF.out _).mono ?_
  rintro e w1 ⟨rfl, hb1⟩
  have bW := Yk hb1 HWB.out
  have HK1 := Yh hb1; have Z1 := hb1.size
  clear hb1 d0
  go_wp2
  go_loopg [4, 5] N (fun G v i wr => PaRel w1 tl gW cw N G v i wr)
  case atStart => exact ⟨0, none, 0, [], Yo, Yo, by simp, rfl, rfl, rfl, World.ownsRow_nil _ _ _ _, bW, Below.refl _ _⟩
  case round =>
   obtain ⟨q, A, c, zs, hq, rfl, rfl, rfl, hzl, hzs, hrow, bW2, KR⟩ := hrel
   have ZR := KR.size
   clear bW
   have HROW := Yh hrow; have HKR := Yh KR; have HZS := Yh hzs; have HZL := Yh hzl; have HBW := Yh bW2
   by_cases hlt : q < N
   ·have gq : decide (((q + 1 : Nat) : Int) < (len : Int)) = true := Y2
    have gq2 : decide ((q : Int) + 1 < (len : Int)) = true := Y2
    have gqn : decide (q + 1 < len) = true := Y2
    have gqp : (q : Int) + 1 < (len : Int) := by omega
    have wq : IntKind.i64.wrap (((q + 1 : Nat) : Int) + 1) = ((q + 1 + 1 : Nat) : Int) := Y4
    have wq2 : IntKind.i64.wrap ((q : Int) + 1 + 1) = ((q + 1 + 1 : Nat) : Int) := Y4
    have dq := (bW2.cell (q + 1)).trans (HWC.out (q + 1) Yo)
    rw [HTL.out q hlt] at dq
    have lW := bW2.lt
    have hx := HG.out (tl.getD q []) (by rw [Y8, Y9 (by rw [HN2.out]; exact hlt)]; exact List.getElem_mem _)
    have htk : tl.take (q + 1) = tl.take q ++ [tl.getD q []] := by
     rw [List.take_add_one, Y9 (by rw [HN2.out]; exact hlt), Y8, Y9 (by rw [HN2.out]; exact hlt)]; rfl
    have hbad := intsW_none tl q (by rw [HN2.out]; exact hlt)
    obtain ⟨x, hxe⟩ : ∃ x, tl.getD q [] = x := ⟨_, rfl⟩
    rw [hxe] at dq hx htk hbad
    unfold strV at dq
    have RN := Yh (fun W => rnum_any x hx W)
    have HTK := Yh htk; have HBAD := Yh hbad
    clear hx hxe htk hbad bW2 hrow hzs hzl KR
    rcases hiw : intW x with _ | n9
    ·rw [hiw] at RN
     unfold numR at RN
     rw [HBAD.out hiw]
     show Code.wp _ _ _ _ _
     go_wp2_with fail
     refine (RN.out _).mono ?_
     rintro e w3 ⟨rfl, hb3⟩
     have K3 := Yh (Yc (Yc hb3 HKR.out) HK1.out)
     clear hb3 dq
     go_wp2
     exact Yb (v := .tuple #[.slice none 0 0, .bool false]) (by simp [results, Tryz.results57, go_sem, *]) rfl ⟨rfl, K3.out⟩
    ·rw [hiw] at RN
     unfold numR at RN
     have hsn := Yh (intsW_snoc _ x zs n9 HZS.out hiw)
     clear hiw
     go_wp2_with fail
     refine (RN.out _).mono ?_
     rintro e w3 ⟨rfl, hb3⟩
     have HR3 := Yh (HROW.out.below hb3); have HK3 := Yh (Yc hb3 HKR.out); have HB3 := Yh (Yk hb3 HBW.out); have Z3 := hb3.size
     clear hb3 dq HROW HKR HBW lW
     obtain ⟨i9, hif, hz0, hz1, hz2⟩ := info_parts infoInt
     have HR4 : Hid (w3.ownsRow w1.heap.size 3 1 (.slice A q c) q (zs.map (Value.int .i64))) := Yh (by have h := HR3.out; unfold RowN at h; rw [HZL.out] at h; exact h)
     have hrl := World.ownsRow.lt HR4.out
     have HBL := Yh (show gW < w1.heap.size from by omega)
     generalize hv : (Value.slice A q c) = v9 at *
     clear hv HR3
     go_wp2_with (at_builtin; refine wpList_append_lies _ rfl _ _ 22 rfl w1.heap.size 3 i9 (.int .i64 0) 1 8 Tryz.underlying22 hif hz0 hz1 hz2 rfl Yd v9 q (zs.map (Value.int .i64)) rfl (World.ownsRow.alloc HR4.out _) ⟨w3.heap.size, 0, none⟩ 1 1 [.int .i64 n9] rfl rfl (World.news_of_block (t := 3) (fr := (0, 0)) (Blk.new _ _ _)) ?c2 Yd ?c3 ?c4 ?c5 _ rfl ?_)
     case c2 => first | exact ⟨rfl, trivial⟩ | (intro u hu; simp at hu; subst hu; rfl) | rfl
     case c3 => unfold maxLen; omega
     case c4 => omega
     case c5 => first | omega | (simp <;> omega)
     intro g7 cp7 w7 hown hgrow hlie hglt
     have K7 : Below w1.heap.size w1 w7 := (Yc (below_new _ _) HK3.out).grown hgrow (by simp; omega) (fun k hk => (hrl k hk).1)
     have R7 : RowN w7 w1.heap.size (.slice (some ⟨g7, 0, none⟩) (q + 1) cp7) (zs ++ [n9]) := by
      unfold RowN
      rw [lla, List.length_singleton, HZL.out, List.map_append]; exact hown
     have B7 : Blk w7 gW 9 cw := (hgrow.block _ (by simp; omega) (fun e => by have h8 := (hrl _ e.symm).1; have := HBL.out; omega)).trans (HB3.out.alloc _)
     have H7 := Yh (Ya K7 (Ya R7 B7))
     clear hown hgrow hlie hglt K7 R7 B7
     go_wp2
     go_roundg (N - (q + 1))
     case measure => omega
     case rel => exact ⟨q + 1, _, _, zs ++ [n9], Yo, Yo, by go_num, rfl, by rw [lla, List.length_singleton, HZL.out], by rw [HTK.out]; exact hsn.out, H7.out.2.1, H7.out.2.2, H7.out.1⟩
   ·obtain rfl : q = N := by omega
    have gq : decide (((q + 1 : Nat) : Int) < (len : Int)) = false := Y3
    have gq2 : decide ((q : Int) + 1 < (len : Int)) = false := Y3
    have gqn : decide (q + 1 < len) = false := Y3
    have hzs2 : intsW tl = some zs := by rw [← HZS.out, ← HN2.out, List.take_length]
    have HZ2 := Yh hzs2
    clear hrow hzs hzs2 bW2 KR
    go_wp2
    have hR : ParR w (some zs) (.returned (.tuple #[.slice A q c, .bool true])) wr := ⟨A, c, by rw [hzl], by have h := HROW.out; rw [← hzl] at h; exact Past.own (X := []) (Past.refl [] _) (World.ownsRow.mono h (by have := HK1.out.size; omega)) (fun k _ hm => by simp at hm), Yc HKR.out HK1.out⟩
    exact Yb (v := .tuple #[.slice A q c, .bool true]) (by simp [results, Tryz.results57, go_sem, *]) rfl (by rw [HZ2.out]; exact hR)
 ·have ho := hno hm
  rw [ho]
  have gne : (fi == (N : Int)) = false := by rw [beq_eq_false_iff_ne]; exact hm
  have gne2 : (fi != (N : Int)) = true := by rw [bne_iff_ne]; exact hm
  have gne3 : decide (fi = (N : Int)) = false := decide_eq_false hm
  have HNN := Yh hN
  clear hno hyes ho hN hNl
  go_enter Tryz.func57, Tryz.ntmps57
  go_wp2_with fail
  refine (RF.out _).mono ?_
  rintro e w1 ⟨rfl, hb1⟩
  have HK1 := Yh hb1
  clear hb1 d0
  go_wp2
  exact Yb (v := .tuple #[.slice none 0 0, .bool false]) (by simp [results, Tryz.results57, go_sem, *]) rfl ⟨rfl, HK1.out⟩
end Go.Proofs.YtiinmhfolfgobaaGreatDoor
namespace Go.Proofs.YtiinmhfolfgobaaGreatDoor
open Go.RowKit
def KsAt (cs cb : Array Value) (l : List Kw) : Prop := cs.size = l.length ∧ cb.size = l.length * 6 ∧ ∀ j, j < l.length → cs[j]? = some (.bool (l.getD j (false, .zero)).1) ∧ ∀ i, i < 6 → cb[j * 6 + i]? = (l.getD j (false, .zero)).2.cs[i]?
theorem KsAt.put {cs cb : Array Value} {l : List Kw} (h : KsAt cs cb l) {q : Nat} (hq : q < l.length) (k : K6) : KsAt (cs.setIfInBounds q (.bool true)) (setArr cb (q * 6) k.cs) (l.set q (true, k)) := by
 have hk : k.cs.length = 6 := rfl
 refine ⟨by rw [Array.size_setIfInBounds, List.length_set]; exact h.1, by rw [setArr_size, List.length_set]; exact h.2.1, fun j hj => ?_⟩
 rw [List.length_set] at hj
 rw [getD_set']
 obtain ⟨h1, h2⟩ := h.2.2 j hj
 refine ⟨?_, fun i hi => ?_⟩
 ·by_cases e : j = q
  ·subst e; rw [if_pos ⟨rfl, hq⟩, Array.getElem?_setIfInBounds_self, if_pos (by rw [h.1]; exact hq)]
  ·rw [if_neg (by simp [e]), Array.getElem?_setIfInBounds, if_neg Yo]; exact h1
 ·rw [setArr_get _ _ _ _ (by rw [hk, h.2.1]; omega), hk]
  by_cases e : j = q
  ·subst e; rw [if_pos Yo, if_pos ⟨rfl, hq⟩]; congr 1; omega
  ·rw [if_neg Yo, if_neg (by simp [e])]; exact h2 i hi
theorem KsAt.same {cs cb : Array Value} {l : List Kw} (h : KsAt cs cb l) {q : Nat} (hq : q < l.length) (hs : (l.getD q (false, .zero)).1 = true) : cs.setIfInBounds q (.bool true) = cs := by
 have h1 := (h.2.2 q hq).1
 rw [hs] at h1
 refine Array.ext_getElem? fun i => ?_
 rw [Array.getElem?_setIfInBounds]
 split
 ·rename_i e; subst e; rw [if_pos (by rw [h.1]; exact hq), h1]
 ·rfl
theorem ks_made (n : Nat) : KsAt (madeCells #[.bool false] n) (madeCells #[.int .i64 0, .int .i64 0, .int .i64 0, .int .i64 0, .int .i64 0, .int .i64 0] (n * 6)) (List.replicate n (false, .zero)) := by
 refine ⟨by simp [madeCells], by simp [madeCells], fun j hj => ?_⟩
 rw [List.length_replicate] at hj
 have e : (List.replicate n ((false, K6.zero) : Kw)).getD j (false, .zero) = (false, .zero) := by
  rw [Y8, List.getElem?_replicate, if_pos hj]; rfl
 rw [e]
 refine ⟨?_, fun i hi => ?_⟩
 ·rw [Array.getElem?_eq_getElem (by simp [madeCells]; omega)]; simp only [madeCells, Array.getElem_map, Array.getElem_range]; simp [Nat.mod_one]
 ·have hm : (j * 6 + i) % 6 = i := by omega
  obtain rfl | rfl | rfl | rfl | rfl | rfl : i = 0 ∨ i = 1 ∨ i = 2 ∨ i = 3 ∨ i = 4 ∨ i = 5 := by omega
  all_goals (rw [Array.getElem?_eq_getElem (by simp [madeCells]; omega)]; simp only [madeCells, Array.getElem_map, Array.getElem_range]; simp only [List.size_toArray, List.length_cons, List.length_nil, Nat.reduceAdd, hm]; rfl)
theorem infoBl : (Tryz.prog.info? 4).map (fun i => (i.zero, i.size, i.bytes)) = some (some (.bool false), 1, 1) := by kernel_rfl
end Go.Proofs.YtiinmhfolfgobaaGreatDoor
