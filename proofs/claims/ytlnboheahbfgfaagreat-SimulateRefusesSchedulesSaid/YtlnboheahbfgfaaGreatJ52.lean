/- Texts joined: Sim13P, Sim13 -/
import Derived.Test.YtlnboheahbfgfaaGreatJ51
import Derived.Test.YtlnboheahbfgfaaGreatJ43
import Derived.Test.YtlnboheahbfgfaaGreatSched
namespace Go.Proofs.YtlnboheahbfgfaaGreat
open Go.RowKit
set_option linter.unusedSimpArgs false
set_option linter.unusedVariables false

def Stp.put (x : Stp) : Nat → Int → Stp
 | 0, v => { x with src := v }
 | 1, v => { x with tr := v }
 | 2, v => { x with lo := v }
 | 3, v => { x with ou := v }
 | 4, v => { x with ol := v }
 | 5, v => { x with ho := v }
 | 6, v => { x with hl := v }
 | 7, v => { x with ba := v }
 | 8, v => { x with bl := v }
 | 9, v => { x with w2 := v }
 | _, v => { x with w3 := v }
def Sch.put (s : Sch) (c j k : Nat) (v : Int) : Sch := if c = 0 then { s with sta := v } else if c = 1 then { s with loc := v } else if c = 2 then { s with p := v } else if c = 3 then { s with li := v } else if c = 4 then { s with ai := v } else if c = 5 then { s with es := s.es.set j v } else { s with xs := s.xs.set k ((s.xs.getD k .zero).put (c - 6) v) }
def ptrB (gS gE gX : Nat) (c : Nat) : Nat := if c < 5 then gS else if c = 5 then gE else gX
def ptrO (j k : Nat) (c : Nat) : Nat := if c < 5 then c else if c = 5 then j else k * 11 + (c - 6)
theorem Stp.put_cs (x : Stp) (v : Int) : ∀ c, c < 11 → (x.put c v).cs = x.cs.set c (.int .i64 v) := by
 intro c hc
 obtain rfl | rfl | rfl | rfl | rfl | rfl | rfl | rfl | rfl | rfl | rfl : c = 0 ∨ c = 1 ∨ c = 2 ∨ c = 3 ∨ c = 4 ∨ c = 5 ∨ c = 6 ∨ c = 7 ∨ c = 8 ∨ c = 9 ∨ c = 10 := by omega
 all_goals rfl
def SchB (w : World) (gS gE gX ec sc : Nat) (s : Sch) : Prop := Blk w gS 54 #[.int .i64 s.sta, .int .i64 s.loc, .int .i64 s.p, .int .i64 s.li, .int .i64 s.ai, .slice (some ⟨gE, 0, none⟩) s.es.length ec, .slice (some ⟨gX, 0, none⟩) s.xs.length sc] ∧
 (∃ cur, Blk w gE 3 cur ∧ ∀ j, j < s.es.length → cur[j]? = some (.int .i64 (s.es.getD j 0))) ∧ (∃ cur, Blk w gX 57 cur ∧ ∀ j, j < s.xs.length → ∀ i, i < 11 → cur[j * 11 + i]? = (s.xs.getD j .zero).cs[i]?)
theorem SchB.below {w w' : World} {gS gE gX ec sc : Nat} {s : Sch} (h : SchB w gS gE gX ec sc s) (hb : Below w.heap.size w w') : SchB w' gS gE gX ec sc s := by
 obtain ⟨h1, ⟨c1, h2, h3⟩, ⟨c2, h4, h5⟩⟩ := h
 exact ⟨Blk.keep hb h1, ⟨c1, Blk.keep hb h2, h3⟩, ⟨c2, Blk.keep hb h4, h5⟩⟩
theorem SchB.at_ {w : World} {gS gE gX ec sc : Nat} {s : Sch} (h : SchB w gS gE gX ec sc s) (h1 : s.es.length ≤ 64) (h2 : s.xs.length ≤ 64) : SchAt w s (some ⟨gE, 0, none⟩) (some ⟨gX, 0, none⟩) := by
 obtain ⟨-, ⟨c1, b1, k1⟩, ⟨c2, b2, k2⟩⟩ := h
 exact ⟨⟨rfl, by omega, fun _ => ⟨gE, 0, rfl, b1.lt, fun j hj => by rw [Nat.zero_add, b1.cell]; exact k1 j hj⟩⟩, ⟨rfl, by omega, fun _ => ⟨gX, 0, rfl, b2.lt, fun j hj i hi => by rw [b2.cell, Nat.zero_add]; exact k2 j hj i hi⟩⟩⟩
theorem SchB.put {w : World} {gS gE gX ec sc : Nat} {s : Sch} (h : SchB w gS gE gX ec sc s) {c j k : Nat} (hc : c < 17) (hj : j < s.es.length) (hk : k < s.xs.length) (v : Int) :
  (∃ o, w.cell? ⟨ptrB gS gE gX c, ptrO j k c, none⟩ = some o) ∧ w.frozen? ⟨ptrB gS gE gX c, ptrO j k c, none⟩ = false ∧ SchB (w.setCell ⟨ptrB gS gE gX c, ptrO j k c, none⟩ (.int .i64 v)) gS gE gX ec sc (s.put c j k v) ∧ (s.put c j k v).es.length = s.es.length ∧ (s.put c j k v).xs.length = s.xs.length := by
 obtain ⟨h1, ⟨c1, b1, k1⟩, ⟨c2, b2, k2⟩⟩ := h
 have n1 : gE ≠ gS := Blk.ne_type b1 h1 (by decide)
 have n2 : gX ≠ gS := Blk.ne_type b2 h1 (by decide)
 have n3 : gX ≠ gE := Blk.ne_type b2 b1 (by decide)
 by_cases hc5 : c < 5
 ·have eb : ptrB gS gE gX c = gS := by unfold ptrB; rw [if_pos hc5]
  have eo : ptrO j k c = c := by unfold ptrO; rw [if_pos hc5]
  rw [eb, eo]
  have hset := h1.set_ c (.int .i64 v)
  have f1 := b1.far (p := ⟨gS, c, none⟩) n1 (.int .i64 v)
  have f2 := b2.far (p := ⟨gS, c, none⟩) n2 (.int .i64 v)
  refine ⟨?_, h1.frozen c, ?_⟩
  ·rw [h1.cell]
   obtain rfl | rfl | rfl | rfl | rfl : c = 0 ∨ c = 1 ∨ c = 2 ∨ c = 3 ∨ c = 4 := by omega
   all_goals exact ⟨_, rfl⟩
  ·obtain rfl | rfl | rfl | rfl | rfl : c = 0 ∨ c = 1 ∨ c = 2 ∨ c = 3 ∨ c = 4 := by omega
   all_goals exact ⟨⟨hset, ⟨c1, f1, k1⟩, ⟨c2, f2, k2⟩⟩, rfl, rfl⟩
 ·by_cases hc6 : c = 5
  ·subst hc6
   have eb : ptrB gS gE gX 5 = gE := rfl
   have eo : ptrO j k 5 = j := rfl
   have ep : s.put 5 j k v = { s with es := s.es.set j v } := rfl
   rw [eb, eo, ep]
   have hset := b1.set_ j (.int .i64 v)
   have f1 := h1.far (p := ⟨gE, j, none⟩) (Ne.symm n1) (.int .i64 v)
   have f2 := b2.far (p := ⟨gE, j, none⟩) n3 (.int .i64 v)
   have hsz : j < c1.size := by have := k1 j hj; exact (Array.getElem?_eq_some_iff.1 this).1
   refine ⟨⟨_, (b1.cell j).trans (k1 j hj)⟩, b1.frozen j, ⟨?_, ⟨_, hset, fun i hi => ?_⟩, ⟨c2, f2, k2⟩⟩, List.length_set, rfl⟩
   ·show Blk _ gS _ #[.int .i64 s.sta, .int .i64 s.loc, .int .i64 s.p, .int .i64 s.li, .int .i64 s.ai, .slice (some ⟨gE, 0, none⟩) (s.es.set j v).length ec, .slice (some ⟨gX, 0, none⟩) s.xs.length sc]
    rw [List.length_set]; exact f1
   ·have hi' : i < s.es.length := by have h9 : i < (s.es.set j v).length := hi; rw [List.length_set] at h9; exact h9
    show _ = some (Value.int .i64 ((s.es.set j v).getD i 0))
    rw [Array.getElem?_setIfInBounds, List.getD_eq_getElem?_getD, List.getElem?_set]
    by_cases e : j = i
    ·subst e; rw [if_pos rfl, if_pos hsz, if_pos rfl, if_pos hj]; rfl
    ·rw [if_neg e, if_neg e, k1 i hi', List.getD_eq_getElem?_getD]
  ·have eb : ptrB gS gE gX c = gX := by unfold ptrB; rw [if_neg hc5, if_neg hc6]
   have eo : ptrO j k c = k * 11 + (c - 6) := by unfold ptrO; rw [if_neg hc5, if_neg hc6]
   have ep : s.put c j k v = { s with xs := s.xs.set k ((s.xs.getD k .zero).put (c - 6) v) } := by unfold Sch.put; rw [if_neg (by omega), if_neg (by omega), if_neg (by omega), if_neg (by omega), if_neg (by omega), if_neg hc6]
   rw [eb, eo, ep]
   obtain ⟨d, hd⟩ : ∃ d, c - 6 = d := ⟨_, rfl⟩
   have hd11 : d < 11 := by omega
   rw [hd]
   have hset := b2.set_ (k * 11 + d) (.int .i64 v)
   have f1 := h1.far (p := ⟨gX, k * 11 + d, none⟩) (Ne.symm n2) (.int .i64 v)
   have f2 := b1.far (p := ⟨gX, k * 11 + d, none⟩) (Ne.symm n3) (.int .i64 v)
   have hkd := k2 k hk d hd11
   have hcs : ∀ x : Stp, x.cs.length = 11 := fun _ => rfl
   rw [List.getElem?_eq_getElem (by rw [hcs]; exact hd11)] at hkd
   have hsz := (Array.getElem?_eq_some_iff.1 hkd).1
   refine ⟨⟨_, (b2.cell _).trans hkd⟩, b2.frozen _, ⟨?_, ⟨c1, f2, k1⟩, ⟨_, hset, fun i hi e he => ?_⟩⟩, rfl, List.length_set⟩
   ·show Blk _ gS _ #[.int .i64 s.sta, .int .i64 s.loc, .int .i64 s.p, .int .i64 s.li, .int .i64 s.ai, .slice (some ⟨gE, 0, none⟩) s.es.length ec, .slice (some ⟨gX, 0, none⟩) (s.xs.set k ((s.xs.getD k .zero).put d v)).length sc]
    rw [List.length_set]; exact f1
   ·have hi' : i < s.xs.length := by have h9 : i < (s.xs.set k ((s.xs.getD k .zero).put d v)).length := hi; rw [List.length_set] at h9; exact h9
    show _ = ((s.xs.set k ((s.xs.getD k .zero).put d v)).getD i .zero).cs[e]?
    rw [Array.getElem?_setIfInBounds, getD_set']
    by_cases ei : i = k
    ·subst ei
     have e9 : (if i = i ∧ i < s.xs.length then (s.xs.getD i .zero).put d v else s.xs.getD i .zero) = (s.xs.getD i .zero).put d v := if_pos ⟨rfl, hk⟩
     rw [e9, Stp.put_cs _ _ _ hd11, List.getElem?_set]
     by_cases ed : d = e
     ·subst ed; rw [if_pos rfl, if_pos hsz, if_pos rfl, if_pos (by rw [hcs]; exact hd11)]
     ·rw [if_neg (by omega), if_neg ed]; exact k2 i hi' e he
    ·rw [if_neg (by omega), if_neg (by simp [ei])]; exact k2 i hi' e he
end Go.Proofs.YtlnboheahbfgfaaGreat
namespace Go.Proofs.YtlnboheahbfgfaaGreat
open Go.RowKit Go.Shelf Go.Sort
set_option linter.unusedSimpArgs false
set_option linter.unusedVariables false

theorem within_rb3 {v n : Int} (w : World) (h0 : 0 < n) (h1 : n ≤ 9223372036854775807) : Calls Tryz.prog 10 #[.int .i64 v, .int .i64 n] w (RB w (.int .i64 (v % n))) := by
 refine (within_any v n w h0 h1).mono ?_
 rintro e w' ⟨rfl, rfl⟩
 exact ⟨rfl, Below.refl _ _⟩
theorem within_nat {v : Int} {n : Nat} (h0 : 0 < n) (h1 : n ≤ 9223372036854775807) : ∃ k : Nat, k < n ∧ ∀ w, Calls Tryz.prog 10 #[.int .i64 v, .int .i64 n] w (RB w (.int .i64 (k : Int))) := by
 have g0 := Int.emod_nonneg v (show (n : Int) ≠ 0 by omega)
 have g1 := Int.emod_lt_of_pos v (show (0 : Int) < n by omega)
 refine ⟨(v % n).toNat, by omega, fun w => ?_⟩
 rw [show (((v % (n : Int)).toNat : Nat) : Int) = v % (n : Int) by omega]
 exact within_rb3 w (by omega) (by omega)
def ptrsC (gS gE gX j k : Nat) : List Value := [.pointer (some ⟨gS, 0, none⟩), .pointer (some ⟨gS, 1, none⟩), .pointer (some ⟨gS, 2, none⟩), .pointer (some ⟨gS, 3, none⟩), .pointer (some ⟨gS, 4, none⟩), .pointer (some ⟨gE, j, none⟩), .pointer (some ⟨gX, k * 11, none⟩), .pointer (some ⟨gX, k * 11 + 1, none⟩), .pointer (some ⟨gX, k * 11 + 2, none⟩), .pointer (some ⟨gX, k * 11 + 3, none⟩), .pointer (some ⟨gX, k * 11 + 4, none⟩), .pointer (some ⟨gX, k * 11 + 5, none⟩), .pointer (some ⟨gX, k * 11 + 6, none⟩), .pointer (some ⟨gX, k * 11 + 7, none⟩), .pointer (some ⟨gX, k * 11 + 8, none⟩), .pointer (some ⟨gX, k * 11 + 9, none⟩), .pointer (some ⟨gX, k * 11 + 10, none⟩)]
theorem ptrs_get (gS gE gX j k : Nat) : ∀ c, c < 17 → (ptrsC gS gE gX j k)[c]? = some (.pointer (some ⟨ptrB gS gE gX c, ptrO j k c, none⟩)) := by
 intro c hc
 obtain rfl | rfl | rfl | rfl | rfl | rfl | rfl | rfl | rfl | rfl | rfl | rfl | rfl | rfl | rfl | rfl | rfl : c = 0 ∨ c = 1 ∨ c = 2 ∨ c = 3 ∨ c = 4 ∨ c = 5 ∨ c = 6 ∨ c = 7 ∨ c = 8 ∨ c = 9 ∨ c = 10 ∨ c = 11 ∨ c = 12 ∨ c = 13 ∨ c = 14 ∨ c = 15 ∨ c = 16 := by omega
 all_goals rfl
def valsC (v d : Int) : List Value := [.int .i64 v, .int .i64 d, .int .i64 1125899906842624, .int .i64 1125899906842625, .int .i64 (-1125899906842624), .int .i64 (-1125899906842625)]
theorem vals_get (v d : Int) : ∀ c, c < 6 → ∃ z : Int, (valsC v d)[c]? = some (.int .i64 z) := by
 intro c hc
 obtain rfl | rfl | rfl | rfl | rfl | rfl : c = 0 ∨ c = 1 ∨ c = 2 ∨ c = 3 ∨ c = 4 ∨ c = 5 := by omega
 all_goals exact ⟨_, rfl⟩
set_option maxRecDepth 100000 in
set_option maxHeartbeats 8000000 in
theorem refuses_walk (LA : Option Addr) (llen lcap : Nat) (ls : List Int) (v1 v2 v3 : Int) (w : World) (k : IntsAt w LA llen ls) :
  Calls Tryz.prog 7 #[.slice LA llen lcap, .int .i64 v1, .int .i64 v2, .int .i64 v3] w (RB w (.bool true)) := by
 have HL := hYd k; clear k
 go_enter Tryz.func7, Tryz.ntmps7
 go_wp2_with fail
 refine (new_any LA llen lcap ls _ (IntsAt.below HL.out bl0)).mono ?_
 rintro e w1 ⟨rfl, ht1, hb1⟩
 have Z1 := hb1.size
 have T1 := ht1.lt
 have HT := hYd ht1
 have HK1 := hYd (show Below w.heap.size w w1 from kept_call hb1 bl0)
 clear ht1 hb1
 go_wp2_with fail
 refine (sched_new _ 6 true _ HT.out (by omega) (by omega)).mono ?_
 rintro e w2 ⟨sta, loc, p, li, ai, EA, SA, ecap, scap, es, xs, rfl, hok, hnum, hst, -, hg2, hfE, hfX⟩
 have Z2 : w1.heap.size ≤ w2.heap.size := hg2.size
 have HK := hYd (show Below w.heap.size w w2 from below_grown HK1.out hg2 (by first | exact Nat.le_refl _ | omega | (simp <;> omega)) (by first | exact Nat.le_refl _ | omega | (simp <;> omega)))
 clear HK1 HT hg2
 have hxl : xs.length ≤ 6 := by have := hok.2.2.2.2.2.2.2.2.2.2.2.2.2.2.1; omega
 have hxl0 : 1 ≤ xs.length := hok.2.2.2.2.2.2.2.2.2.2.2.2.2.1
 have hel : es.length ≤ 5 := hok.2.2.2.2.2.2.2.2.2.2.2.1
 have hel0 : 1 ≤ es.length := (chkE_0 (sch_good hok (by omega)).1).1
 obtain ⟨-, gE, curE, rfl, -, bE, kE⟩ := hnum
 obtain ⟨gX, curX, rfl, -, bX, kX⟩ := hst
 have lE0 : w.heap.size ≤ gE := by have := hfE gE rfl; omega
 have lX0 : w.heap.size ≤ gX := by have := hfX gX rfl; omega
 clear hfE hfX hok
 have HES := hYd (show ∃ cur, Blk w2 gE 3 cur ∧ ∀ j, j < es.length → cur[j]? = some (.int .i64 (es.getD j 0)) from ⟨curE, bE, kE⟩)
 have HXS := hYd (show ∃ cur, Blk w2 gX 57 cur ∧ ∀ j, j < xs.length → ∀ i, i < 11 → cur[j * 11 + i]? = (xs.getD j .zero).cs[i]? from ⟨curX, bX, kX⟩)
 clear bE kE bX kX
 obtain ⟨n, hn⟩ : ∃ n, es.length = n := ⟨_, rfl⟩
 obtain ⟨m, hm⟩ : ∃ m, xs.length = m := ⟨_, rfl⟩
 rw [hn] at hel hel0 ⊢
 rw [hm] at hxl hxl0 ⊢
 have HN := hYd hn; have HM := hYd hm; clear hn hm
 go_upto_region 2 with fail
 obtain ⟨gS, hgS⟩ : ∃ g, w2.heap.size = g := ⟨_, rfl⟩
 obtain ⟨wA, hwA⟩ : ∃ x : World, x = w2.alloc (.cells #[.int .i64 sta, .int .i64 loc, .int .i64 p, .int .i64 li, .int .i64 ai, .slice (some ⟨gE, 0, none⟩) n ecap, .slice (some ⟨gX, 0, none⟩) m scap] 54) := ⟨_, rfl⟩
 have SA1 : Below w2.heap.size w2 wA := by rw [hwA]; exact (Below.refl _ _).alloc (Nat.le_refl _) _
 have bS : Blk wA gS 54 #[.int .i64 sta, .int .i64 loc, .int .i64 p, .int .i64 li, .int .i64 ai, .slice (some ⟨gE, 0, none⟩) n ecap, .slice (some ⟨gX, 0, none⟩) m scap] := by rw [hwA, ← hgS]; exact Blk.new _ _ _
 rw [← hwA, hgS]
 clear hwA
 have HB := hYd (show SchB wA gS gE gX ecap scap (⟨sta, loc, p, li, ai, es, xs⟩ : Sch) from ⟨by show Blk wA gS _ #[_, _, _, _, _, .slice _ es.length _, .slice _ xs.length _]; rw [HN.out, HM.out]; exact bS, (by obtain ⟨c, h1, h2⟩ := HES.out; exact ⟨c, h1.below SA1, h2⟩), (by obtain ⟨c, h1, h2⟩ := HXS.out; exact ⟨c, h1.below SA1, h2⟩)⟩)
 have lS0 : w.heap.size < gS := by omega
 have hKA := kept_call SA1 HK.out
 have HKA := hYd hKA
 have lSA := bS.lt
 have hBS := hYd bS
 clear hgS SA1 HK HES HXS hKA bS
 obtain ⟨k, hk, rk⟩ := within_nat (v := v2) (n := m) (by omega) (by omega)
 obtain ⟨j, hj, rj⟩ := within_nat (v := v2) (n := n) (by omega) (by omega)
 obtain ⟨c, hc, rc⟩ := within_nat (v := v1) (n := 17) (by omega) (by omega)
 obtain ⟨e9, he9, re⟩ := within_nat (v := v3) (n := 6) (by omega) (by omega)
 obtain ⟨d9, hd9, rd⟩ := within_nat (v := v3) (n := 20) (by omega) (by omega)
 have RKw := hYd rk; have RJw := hYd rj; have RCw := hYd rc; have REw := hYd re; have RDw := hYd rd; clear rk rj rc re rd
 have gk1 : decide ((k : Int) < (m : Int)) = true := decide_eq_true (by omega)
 have gk2 : decide (k < m) = true := decide_eq_true hk
 have gj1 : decide ((j : Int) < (n : Int)) = true := decide_eq_true (by omega)
 have gj2 : decide (j < n) = true := decide_eq_true hj
 refine' wp_region_calmD (by kernel_rfl) (fun D u9 w' => Below wA.heap.size wA w' ∧ True) (fun _ _ => True) [(Is _), (Is _), (Is _), (Is _), (Is _), (Is _), (Is _), (Is _), (Is _)] [[], [0], [], [], [3], [4], [2, 5], [1, 6], [7]] rfl (calmB_of (by kernel_rfl)) (fun u => by (simp only [calmPut, Act.put, lst, ls0, ls1, Nat.zero_add, Nat.reduceAdd]; rfl)) ?_ (kcc keep_is' (kcc keep_is' (kcc keep_is' (kcc keep_is' (kcc keep_is' (kcc keep_is' (kcc keep_is' (kcc keep_is' (kcc keep_is' (calmKeep_nil)))))))))) ?_ ?_
 ·exact ⟨(Below.refl _ _).drew, trivial⟩
 rotate_left 9
 ·skip
  refine dc0 (fun uu wq D hC K hK => ?_) ?_
  ·obtain ⟨hP, hT9⟩ := hC
   go_simp
   exact hK _ _ _ rfl ⟨hP, hT9⟩ trivial rfl
  refine dc1 (fun uu wq D hC hk K hK => ?_) ?_
  ·obtain ⟨hP, hT9⟩ := hC
   simp only [calmKnown, lg0, lg1, and_true, Is] at hk
   have h0 := hk; clear hk
   simp only [h0] at hK ⊢
   have H0 := hYd h0; clear h0
   have bS := hBS.out.below hP; have cS := bS.cell; have lS := bS.lt
   go_simp
   exact hK _ _ _ rfl ⟨hP, hT9⟩ trivial rfl
  refine dc0 (fun uu wq D hC K hK => ?_) ?_
  ·obtain ⟨hP, hT9⟩ := hC
   go_simp
   exact hK _ _ _ rfl ⟨hP, hT9⟩ trivial rfl
  refine dc0 (fun uu wq D hC K hK => ?_) ?_
  ·obtain ⟨hP, hT9⟩ := hC
   go_simp
   exact hK _ _ _ rfl ⟨hP, hT9⟩ trivial rfl
  refine dc1 (fun uu wq D hC hk K hK => ?_) ?_
  ·obtain ⟨hP, hT9⟩ := hC
   simp only [calmKnown, lg0, lg1, and_true, Is] at hk
   have h3 := hk; clear hk
   simp only [h3] at hK ⊢
   have H3 := hYd h3; clear h3
   have bS := hBS.out.below hP; have cS := bS.cell; have lS := bS.lt
   go_simp
   exact hK _ _ _ rfl ⟨hP, hT9⟩ trivial rfl
  refine dc1 (fun uu wq D hC hk K hK => ?_) ?_
  ·obtain ⟨hP, hT9⟩ := hC
   simp only [calmKnown, lg0, lg1, and_true, Is] at hk
   have h4 := hk; clear hk
   simp only [h4] at hK ⊢
   have H4 := hYd h4; clear h4
   first
    | (refine' calm_op ?_ ?_; rfl; go_simp; (first | (with_reducible refine (RKw.out _).mono ?_)); rintro e w2 ⟨rfl, hbl⟩; exact hK _ _ _ rfl ⟨kept_call hbl hP, trivial⟩ trivial rfl)
    | (go_simp; exact hK _ _ _ rfl ⟨hP, hT9⟩ trivial rfl)
  refine dc1 (fun uu wq D hC hk K hK => ?_) ?_
  ·obtain ⟨hP, hT9⟩ := hC
   simp only [calmKnown, lg0, lg1, and_true, Is] at hk
   obtain ⟨h2, h5⟩ := hk
   simp only [h2, h5] at hK ⊢
   have H2 := hYd h2; clear h2; have H5 := hYd h5; clear h5
   first
    | (refine' calm_op ?_ ?_; rfl; go_simp; (first | (with_reducible refine (RKw.out _).mono ?_)); rintro e w2 ⟨rfl, hbl⟩; exact hK _ _ _ rfl ⟨kept_call hbl hP, trivial⟩ trivial rfl)
    | (go_simp; exact hK _ _ _ rfl ⟨hP, hT9⟩ trivial rfl)
  refine dc1 (fun uu wq D hC hk K hK => ?_) ?_
  ·obtain ⟨hP, hT9⟩ := hC
   simp only [calmKnown, lg0, lg1, and_true, Is] at hk
   obtain ⟨h1, h6⟩ := hk
   simp only [h1, h6] at hK ⊢
   have H1 := hYd h1; clear h1; have H6 := hYd h6; clear h6
   go_simp
   exact hK _ _ _ rfl ⟨hP, hT9⟩ trivial rfl
  refine dc1 (fun uu wq D hC hk K hK => ?_) ?_
  ·obtain ⟨hP, hT9⟩ := hC
   simp only [calmKnown, lg0, lg1, and_true, Is] at hk
   have h7 := hk; clear hk
   simp only [h7] at hK ⊢
   have H7 := hYd h7; clear h7
   go_simp
   exact hK _ _ _ rfl ⟨hP, hT9⟩ trivial rfl
  exact dSteps_nil
 ·intro uu wB D hD hC hF
  obtain ⟨hP, hT9⟩ := hC
  simp only [calmFacts, Is, and_true, true_and] at hF
  obtain ⟨f0, f1, f2, f3, f4, f5, f6, f7, f8⟩ := hF
  simp only [f0, f1, f2, f3, f4, f5, f6, f7, f8]
  have hBS' := hYd (hBS.out.below hP); have HB' := hYd (HB.out.below hP); have HKA' := hYd (kept_call hP HKA.out)
  have ZwB := hP.size
  clear hBS HB HKA hP hT9 hD; have hBS := hBS'; have HB := HB'; have HKA := HKA'; clear hBS' HB' HKA'
  go_upto_region 3 with fail
  refine' wp_region_calmD (by kernel_rfl) (fun D u9 w' => Below wB.heap.size wB w' ∧ True ∧ (D 46 = true → ∃ g, u9 46 = .slice (some ⟨g, 0, none⟩) 17 17 ∧ wB.heap.size ≤ g ∧ Blk w' g 75 (ptrsC gS gE gX j k).toArray) ∧ (D 47 = true → u9 47 = u9 46)) (fun _ _ => True) ((Is _) :: (Is _) :: (Is _) :: (Is _) :: (Is _) :: (Is _) :: (Is _) :: (Is _) :: (Is _) :: (Is _) :: (Is _) :: (Is _) :: (Is _) :: (Is _) :: (Is _) :: (Is _) :: (Is _) :: (Is _) :: (Is _) :: (Is _) :: (Is _) :: (Is _) :: (Is _) :: (Is _) :: (Is _) :: (Is _) :: (Is _) :: (Is _) :: (Is _) :: (Is _) :: (Is _) :: (Is _) :: (Is _) :: (Is _) :: (Is _) :: (Is _) :: (Is _) :: (Is _) :: (Is _) :: (Is _) :: (Is _) :: (Is _) :: (Is _) :: (Is _) :: (Is _) :: (Is _) :: (fun _ _ _ => True) :: (fun _ _ _ => True) :: []) ([] :: [] :: [] :: [] :: [] :: [] :: [5] :: [] :: [] :: [8] :: [9] :: [7, 10] :: [6, 11] :: [] :: [13] :: [14] :: [] :: [16] :: [17] :: [] :: [19] :: [20] :: [] :: [22] :: [23] :: [] :: [25] :: [26] :: [] :: [28] :: [29] :: [] :: [31] :: [32] :: [] :: [34] :: [35] :: [] :: [37] :: [38] :: [] :: [40] :: [41] :: [] :: [43] :: [44] :: [0, 1, 2, 3, 4, 12, 15, 18, 21, 24, 27, 30, 33, 36, 39, 42, 45] :: [46] :: []) rfl (calmB_of (by kernel_rfl)) (fun u => by (simp only [calmPut, Act.put, lst, ls0, ls1, Nat.zero_add, Nat.reduceAdd]; rfl)) ?_ (kcc keep_is' (kcc keep_is' (kcc keep_is' (kcc keep_is' (kcc keep_is' (kcc keep_is' (kcc keep_is' (kcc keep_is' (kcc keep_is' (kcc keep_is' (kcc keep_is' (kcc keep_is' (kcc keep_is' (kcc keep_is' (kcc keep_is' (kcc keep_is' (kcc keep_is' (kcc keep_is' (kcc keep_is' (kcc keep_is' (kcc keep_is' (kcc keep_is' (kcc keep_is' (kcc keep_is' (kcc keep_is' (kcc keep_is' (kcc keep_is' (kcc keep_is' (kcc keep_is' (kcc keep_is' (kcc keep_is' (kcc keep_is' (kcc keep_is' (kcc keep_is' (kcc keep_is' (kcc keep_is' (kcc keep_is' (kcc keep_is' (kcc keep_is' (kcc keep_is' (kcc keep_is' (kcc keep_is' (kcc keep_is' (kcc keep_is' (kcc keep_is' (kcc keep_is' (kcc keep_triv (kcc keep_triv (calmKeep_nil))))))))))))))))))))))))))))))))))))))))))))))))) ?_ ?_
  ·exact ⟨(Below.refl _ _).drew, trivial, (fun h => by cases h), (fun h => by cases h)⟩
  rotate_left 46
  ·skip
   refine dc0 (fun uu wq D hC K hK => ?_) ?_
   ·obtain ⟨hP, hT9, x46, x47⟩ := hC
    go_simp
    exact hK _ _ _ rfl ⟨hP, hT9, x46, x47⟩ trivial rfl
   refine dc0 (fun uu wq D hC K hK => ?_) ?_
   ·obtain ⟨hP, hT9, x46, x47⟩ := hC
    go_simp
    exact hK _ _ _ rfl ⟨hP, hT9, x46, x47⟩ trivial rfl
   refine dc0 (fun uu wq D hC K hK => ?_) ?_
   ·obtain ⟨hP, hT9, x46, x47⟩ := hC
    go_simp
    exact hK _ _ _ rfl ⟨hP, hT9, x46, x47⟩ trivial rfl
   refine dc0 (fun uu wq D hC K hK => ?_) ?_
   ·obtain ⟨hP, hT9, x46, x47⟩ := hC
    go_simp
    exact hK _ _ _ rfl ⟨hP, hT9, x46, x47⟩ trivial rfl
   refine dc0 (fun uu wq D hC K hK => ?_) ?_
   ·obtain ⟨hP, hT9, x46, x47⟩ := hC
    go_simp
    exact hK _ _ _ rfl ⟨hP, hT9, x46, x47⟩ trivial rfl
   refine dc0 (fun uu wq D hC K hK => ?_) ?_
   ·obtain ⟨hP, hT9, x46, x47⟩ := hC
    go_simp
    exact hK _ _ _ rfl ⟨hP, hT9, x46, x47⟩ trivial rfl
   refine dc1 (fun uu wq D hC hk K hK => ?_) ?_
   ·obtain ⟨hP, hT9, x46, x47⟩ := hC
    simp only [calmKnown, lg0, lg1, and_true, Is] at hk
    have h5 := hk; clear hk
    simp only [h5] at hK ⊢
    have H5 := hYd h5; clear h5
    have bS := hBS.out.below hP; have cS := bS.cell; have lS := bS.lt
    go_simp
    exact hK _ _ _ rfl ⟨hP, hT9, x46, x47⟩ trivial rfl
   refine dc0 (fun uu wq D hC K hK => ?_) ?_
   ·obtain ⟨hP, hT9, x46, x47⟩ := hC
    go_simp
    exact hK _ _ _ rfl ⟨hP, hT9, x46, x47⟩ trivial rfl
   refine dc0 (fun uu wq D hC K hK => ?_) ?_
   ·obtain ⟨hP, hT9, x46, x47⟩ := hC
    go_simp
    exact hK _ _ _ rfl ⟨hP, hT9, x46, x47⟩ trivial rfl
   refine dc1 (fun uu wq D hC hk K hK => ?_) ?_
   ·obtain ⟨hP, hT9, x46, x47⟩ := hC
    simp only [calmKnown, lg0, lg1, and_true, Is] at hk
    have h8 := hk; clear hk
    simp only [h8] at hK ⊢
    have H8 := hYd h8; clear h8
    have bS := hBS.out.below hP; have cS := bS.cell; have lS := bS.lt
    go_simp
    exact hK _ _ _ rfl ⟨hP, hT9, x46, x47⟩ trivial rfl
   refine dc1 (fun uu wq D hC hk K hK => ?_) ?_
   ·obtain ⟨hP, hT9, x46, x47⟩ := hC
    simp only [calmKnown, lg0, lg1, and_true, Is] at hk
    have h9 := hk; clear hk
    simp only [h9] at hK ⊢
    have H9 := hYd h9; clear h9
    first
     | (refine' calm_op ?_ ?_; rfl; go_simp; (first | (with_reducible refine (RJw.out _).mono ?_)); rintro e w2 ⟨rfl, hbl⟩; exact hK _ _ _ rfl ⟨kept_call hbl hP, trivial, (fun h => by obtain ⟨g, e1, e2, e3⟩ := x46 h; exact ⟨g, e1, e2, Blk.keep hbl e3⟩), x47⟩ trivial rfl)
     | (go_simp; exact hK _ _ _ rfl ⟨hP, hT9, x46, x47⟩ trivial rfl)
   refine dc1 (fun uu wq D hC hk K hK => ?_) ?_
   ·obtain ⟨hP, hT9, x46, x47⟩ := hC
    simp only [calmKnown, lg0, lg1, and_true, Is] at hk
    obtain ⟨h7, h10⟩ := hk
    simp only [h7, h10] at hK ⊢
    have H7 := hYd h7; clear h7; have H10 := hYd h10; clear h10
    first
     | (refine' calm_op ?_ ?_; rfl; go_simp; (first | (with_reducible refine (RJw.out _).mono ?_)); rintro e w2 ⟨rfl, hbl⟩; exact hK _ _ _ rfl ⟨kept_call hbl hP, trivial, (fun h => by obtain ⟨g, e1, e2, e3⟩ := x46 h; exact ⟨g, e1, e2, Blk.keep hbl e3⟩), x47⟩ trivial rfl)
     | (go_simp; exact hK _ _ _ rfl ⟨hP, hT9, x46, x47⟩ trivial rfl)
   refine dc1 (fun uu wq D hC hk K hK => ?_) ?_
   ·obtain ⟨hP, hT9, x46, x47⟩ := hC
    simp only [calmKnown, lg0, lg1, and_true, Is] at hk
    obtain ⟨h6, h11⟩ := hk
    simp only [h6, h11] at hK ⊢
    have H6 := hYd h6; clear h6; have H11 := hYd h11; clear h11
    go_simp
    exact hK _ _ _ rfl ⟨hP, hT9, x46, x47⟩ trivial rfl
   refine dc0 (fun uu wq D hC K hK => ?_) ?_
   ·obtain ⟨hP, hT9, x46, x47⟩ := hC
    go_simp
    exact hK _ _ _ rfl ⟨hP, hT9, x46, x47⟩ trivial rfl
   refine dc1 (fun uu wq D hC hk K hK => ?_) ?_
   ·obtain ⟨hP, hT9, x46, x47⟩ := hC
    simp only [calmKnown, lg0, lg1, and_true, Is] at hk
    have h13 := hk; clear hk
    simp only [h13] at hK ⊢
    have H13 := hYd h13; clear h13
    go_simp
    exact hK _ _ _ rfl ⟨hP, hT9, x46, x47⟩ trivial rfl
   refine dc1 (fun uu wq D hC hk K hK => ?_) ?_
   ·obtain ⟨hP, hT9, x46, x47⟩ := hC
    simp only [calmKnown, lg0, lg1, and_true, Is] at hk
    have h14 := hk; clear hk
    simp only [h14] at hK ⊢
    have H14 := hYd h14; clear h14
    go_simp
    exact hK _ _ _ rfl ⟨hP, hT9, x46, x47⟩ trivial rfl
   refine dc0 (fun uu wq D hC K hK => ?_) ?_
   ·obtain ⟨hP, hT9, x46, x47⟩ := hC
    go_simp
    exact hK _ _ _ rfl ⟨hP, hT9, x46, x47⟩ trivial rfl
   refine dc1 (fun uu wq D hC hk K hK => ?_) ?_
   ·obtain ⟨hP, hT9, x46, x47⟩ := hC
    simp only [calmKnown, lg0, lg1, and_true, Is] at hk
    have h16 := hk; clear hk
    simp only [h16] at hK ⊢
    have H16 := hYd h16; clear h16
    go_simp
    exact hK _ _ _ rfl ⟨hP, hT9, x46, x47⟩ trivial rfl
   refine dc1 (fun uu wq D hC hk K hK => ?_) ?_
   ·obtain ⟨hP, hT9, x46, x47⟩ := hC
    simp only [calmKnown, lg0, lg1, and_true, Is] at hk
    have h17 := hk; clear hk
    simp only [h17] at hK ⊢
    have H17 := hYd h17; clear h17
    go_simp
    exact hK _ _ _ rfl ⟨hP, hT9, x46, x47⟩ trivial rfl
   refine dc0 (fun uu wq D hC K hK => ?_) ?_
   ·obtain ⟨hP, hT9, x46, x47⟩ := hC
    go_simp
    exact hK _ _ _ rfl ⟨hP, hT9, x46, x47⟩ trivial rfl
   refine dc1 (fun uu wq D hC hk K hK => ?_) ?_
   ·obtain ⟨hP, hT9, x46, x47⟩ := hC
    simp only [calmKnown, lg0, lg1, and_true, Is] at hk
    have h19 := hk; clear hk
    simp only [h19] at hK ⊢
    have H19 := hYd h19; clear h19
    go_simp
    exact hK _ _ _ rfl ⟨hP, hT9, x46, x47⟩ trivial rfl
   refine dc1 (fun uu wq D hC hk K hK => ?_) ?_
   ·obtain ⟨hP, hT9, x46, x47⟩ := hC
    simp only [calmKnown, lg0, lg1, and_true, Is] at hk
    have h20 := hk; clear hk
    simp only [h20] at hK ⊢
    have H20 := hYd h20; clear h20
    go_simp
    exact hK _ _ _ rfl ⟨hP, hT9, x46, x47⟩ trivial rfl
   refine dc0 (fun uu wq D hC K hK => ?_) ?_
   ·obtain ⟨hP, hT9, x46, x47⟩ := hC
    go_simp
    exact hK _ _ _ rfl ⟨hP, hT9, x46, x47⟩ trivial rfl
   refine dc1 (fun uu wq D hC hk K hK => ?_) ?_
   ·obtain ⟨hP, hT9, x46, x47⟩ := hC
    simp only [calmKnown, lg0, lg1, and_true, Is] at hk
    have h22 := hk; clear hk
    simp only [h22] at hK ⊢
    have H22 := hYd h22; clear h22
    go_simp
    exact hK _ _ _ rfl ⟨hP, hT9, x46, x47⟩ trivial rfl
   refine dc1 (fun uu wq D hC hk K hK => ?_) ?_
   ·obtain ⟨hP, hT9, x46, x47⟩ := hC
    simp only [calmKnown, lg0, lg1, and_true, Is] at hk
    have h23 := hk; clear hk
    simp only [h23] at hK ⊢
    have H23 := hYd h23; clear h23
    go_simp
    exact hK _ _ _ rfl ⟨hP, hT9, x46, x47⟩ trivial rfl
   refine dc0 (fun uu wq D hC K hK => ?_) ?_
   ·obtain ⟨hP, hT9, x46, x47⟩ := hC
    go_simp
    exact hK _ _ _ rfl ⟨hP, hT9, x46, x47⟩ trivial rfl
   refine dc1 (fun uu wq D hC hk K hK => ?_) ?_
   ·obtain ⟨hP, hT9, x46, x47⟩ := hC
    simp only [calmKnown, lg0, lg1, and_true, Is] at hk
    have h25 := hk; clear hk
    simp only [h25] at hK ⊢
    have H25 := hYd h25; clear h25
    go_simp
    exact hK _ _ _ rfl ⟨hP, hT9, x46, x47⟩ trivial rfl
   refine dc1 (fun uu wq D hC hk K hK => ?_) ?_
   ·obtain ⟨hP, hT9, x46, x47⟩ := hC
    simp only [calmKnown, lg0, lg1, and_true, Is] at hk
    have h26 := hk; clear hk
    simp only [h26] at hK ⊢
    have H26 := hYd h26; clear h26
    go_simp
    exact hK _ _ _ rfl ⟨hP, hT9, x46, x47⟩ trivial rfl
   refine dc0 (fun uu wq D hC K hK => ?_) ?_
   ·obtain ⟨hP, hT9, x46, x47⟩ := hC
    go_simp
    exact hK _ _ _ rfl ⟨hP, hT9, x46, x47⟩ trivial rfl
   refine dc1 (fun uu wq D hC hk K hK => ?_) ?_
   ·obtain ⟨hP, hT9, x46, x47⟩ := hC
    simp only [calmKnown, lg0, lg1, and_true, Is] at hk
    have h28 := hk; clear hk
    simp only [h28] at hK ⊢
    have H28 := hYd h28; clear h28
    go_simp
    exact hK _ _ _ rfl ⟨hP, hT9, x46, x47⟩ trivial rfl
   refine dc1 (fun uu wq D hC hk K hK => ?_) ?_
   ·obtain ⟨hP, hT9, x46, x47⟩ := hC
    simp only [calmKnown, lg0, lg1, and_true, Is] at hk
    have h29 := hk; clear hk
    simp only [h29] at hK ⊢
    have H29 := hYd h29; clear h29
    go_simp
    exact hK _ _ _ rfl ⟨hP, hT9, x46, x47⟩ trivial rfl
   refine dc0 (fun uu wq D hC K hK => ?_) ?_
   ·obtain ⟨hP, hT9, x46, x47⟩ := hC
    go_simp
    exact hK _ _ _ rfl ⟨hP, hT9, x46, x47⟩ trivial rfl
   refine dc1 (fun uu wq D hC hk K hK => ?_) ?_
   ·obtain ⟨hP, hT9, x46, x47⟩ := hC
    simp only [calmKnown, lg0, lg1, and_true, Is] at hk
    have h31 := hk; clear hk
    simp only [h31] at hK ⊢
    have H31 := hYd h31; clear h31
    go_simp
    exact hK _ _ _ rfl ⟨hP, hT9, x46, x47⟩ trivial rfl
   refine dc1 (fun uu wq D hC hk K hK => ?_) ?_
   ·obtain ⟨hP, hT9, x46, x47⟩ := hC
    simp only [calmKnown, lg0, lg1, and_true, Is] at hk
    have h32 := hk; clear hk
    simp only [h32] at hK ⊢
    have H32 := hYd h32; clear h32
    go_simp
    exact hK _ _ _ rfl ⟨hP, hT9, x46, x47⟩ trivial rfl
   refine dc0 (fun uu wq D hC K hK => ?_) ?_
   ·obtain ⟨hP, hT9, x46, x47⟩ := hC
    go_simp
    exact hK _ _ _ rfl ⟨hP, hT9, x46, x47⟩ trivial rfl
   refine dc1 (fun uu wq D hC hk K hK => ?_) ?_
   ·obtain ⟨hP, hT9, x46, x47⟩ := hC
    simp only [calmKnown, lg0, lg1, and_true, Is] at hk
    have h34 := hk; clear hk
    simp only [h34] at hK ⊢
    have H34 := hYd h34; clear h34
    go_simp
    exact hK _ _ _ rfl ⟨hP, hT9, x46, x47⟩ trivial rfl
   refine dc1 (fun uu wq D hC hk K hK => ?_) ?_
   ·obtain ⟨hP, hT9, x46, x47⟩ := hC
    simp only [calmKnown, lg0, lg1, and_true, Is] at hk
    have h35 := hk; clear hk
    simp only [h35] at hK ⊢
    have H35 := hYd h35; clear h35
    go_simp
    exact hK _ _ _ rfl ⟨hP, hT9, x46, x47⟩ trivial rfl
   refine dc0 (fun uu wq D hC K hK => ?_) ?_
   ·obtain ⟨hP, hT9, x46, x47⟩ := hC
    go_simp
    exact hK _ _ _ rfl ⟨hP, hT9, x46, x47⟩ trivial rfl
   refine dc1 (fun uu wq D hC hk K hK => ?_) ?_
   ·obtain ⟨hP, hT9, x46, x47⟩ := hC
    simp only [calmKnown, lg0, lg1, and_true, Is] at hk
    have h37 := hk; clear hk
    simp only [h37] at hK ⊢
    have H37 := hYd h37; clear h37
    go_simp
    exact hK _ _ _ rfl ⟨hP, hT9, x46, x47⟩ trivial rfl
   refine dc1 (fun uu wq D hC hk K hK => ?_) ?_
   ·obtain ⟨hP, hT9, x46, x47⟩ := hC
    simp only [calmKnown, lg0, lg1, and_true, Is] at hk
    have h38 := hk; clear hk
    simp only [h38] at hK ⊢
    have H38 := hYd h38; clear h38
    go_simp
    exact hK _ _ _ rfl ⟨hP, hT9, x46, x47⟩ trivial rfl
   refine dc0 (fun uu wq D hC K hK => ?_) ?_
   ·obtain ⟨hP, hT9, x46, x47⟩ := hC
    go_simp
    exact hK _ _ _ rfl ⟨hP, hT9, x46, x47⟩ trivial rfl
   refine dc1 (fun uu wq D hC hk K hK => ?_) ?_
   ·obtain ⟨hP, hT9, x46, x47⟩ := hC
    simp only [calmKnown, lg0, lg1, and_true, Is] at hk
    have h40 := hk; clear hk
    simp only [h40] at hK ⊢
    have H40 := hYd h40; clear h40
    go_simp
    exact hK _ _ _ rfl ⟨hP, hT9, x46, x47⟩ trivial rfl
   refine dc1 (fun uu wq D hC hk K hK => ?_) ?_
   ·obtain ⟨hP, hT9, x46, x47⟩ := hC
    simp only [calmKnown, lg0, lg1, and_true, Is] at hk
    have h41 := hk; clear hk
    simp only [h41] at hK ⊢
    have H41 := hYd h41; clear h41
    go_simp
    exact hK _ _ _ rfl ⟨hP, hT9, x46, x47⟩ trivial rfl
   refine dc0 (fun uu wq D hC K hK => ?_) ?_
   ·obtain ⟨hP, hT9, x46, x47⟩ := hC
    go_simp
    exact hK _ _ _ rfl ⟨hP, hT9, x46, x47⟩ trivial rfl
   refine dc1 (fun uu wq D hC hk K hK => ?_) ?_
   ·obtain ⟨hP, hT9, x46, x47⟩ := hC
    simp only [calmKnown, lg0, lg1, and_true, Is] at hk
    have h43 := hk; clear hk
    simp only [h43] at hK ⊢
    have H43 := hYd h43; clear h43
    go_simp
    exact hK _ _ _ rfl ⟨hP, hT9, x46, x47⟩ trivial rfl
   refine dc1 (fun uu wq D hC hk K hK => ?_) ?_
   ·obtain ⟨hP, hT9, x46, x47⟩ := hC
    simp only [calmKnown, lg0, lg1, and_true, Is] at hk
    have h44 := hk; clear hk
    simp only [h44] at hK ⊢
    have H44 := hYd h44; clear h44
    go_simp
    exact hK _ _ _ rfl ⟨hP, hT9, x46, x47⟩ trivial rfl
   refine dc2 (fun uu wq D hd hn hn2 hC hk K hK => ?_) ?_
   ·obtain ⟨hP, hT9, x46, x47⟩ := hC
    simp only [calmKnown, lg0, lg1, and_true, Is] at hk
    obtain ⟨h0, h1, h2, h3, h4, h12, h15, h18, h21, h24, h27, h30, h33, h36, h39, h42, h45⟩ := hk
    simp only [h0, h1, h2, h3, h4, h12, h15, h18, h21, h24, h27, h30, h33, h36, h39, h42, h45] at hK ⊢
    have H0 := hYd h0; clear h0; have H1 := hYd h1; clear h1; have H2 := hYd h2; clear h2; have H3 := hYd h3; clear h3; have H4 := hYd h4; clear h4; have H12 := hYd h12; clear h12; have H15 := hYd h15; clear h15; have H18 := hYd h18; clear h18; have H21 := hYd h21; clear h21; have H24 := hYd h24; clear h24; have H27 := hYd h27; clear h27; have H30 := hYd h30; clear h30; have H33 := hYd h33; clear h33; have H36 := hYd h36; clear h36; have H39 := hYd h39; clear h39; have H42 := hYd h42; clear h42; have H45 := hYd h45; clear h45
    have hsz := hP.size
    go_simp
    exact hK _ _ _ rfl ⟨hP.alloc hsz _, trivial, (fun _ => ⟨_, rfl, hsz, Blk.new _ _ _⟩), (fun h => absurd (h.symm.trans (hn.out 47 (calmReach_of (by decide) (by kernel_rfl)))) (by decide))⟩ trivial trivial
   refine dc2 (fun uu wq D hd hn hn2 hC hk K hK => ?_) ?_
   ·obtain ⟨hP, hT9, x46, x47⟩ := hC
    simp only [calmKnown, lg0, lg1, and_true, Is] at hk
    clear hk
    obtain ⟨g9, e46, -, -⟩ := x46 (hn2.out 46 (calmReach_of (by decide) (by kernel_rfl)))
    simp only [e46] at hK ⊢
    go_simp
    exact hK _ _ _ rfl ⟨hP, trivial, x46, (fun _ => by show Value.slice _ _ _ = uu 46; rw [e46])⟩ trivial trivial
   exact dSteps_nil
  ·intro uu wC D hD hC hF
   obtain ⟨hP, hT9, x46, x47⟩ := hC
   simp only [calmFacts, Is, and_true, true_and] at hF
   obtain ⟨f0, f1, f2, f3, f4, f5, f6, f7, f8, f9, f10, f11, f12, f13, f14, f15, f16, f17, f18, f19, f20, f21, f22, f23, f24, f25, f26, f27, f28, f29, f30, f31, f32, f33, f34, f35, f36, f37, f38, f39, f40, f41, f42, f43, f44, f45⟩ := hF
   simp only [f0, f1, f2, f3, f4, f5, f6, f7, f8, f9, f10, f11, f12, f13, f14, f15, f16, f17, f18, f19, f20, f21, f22, f23, f24, f25, f26, f27, f28, f29, f30, f31, f32, f33, f34, f35, f36, f37, f38, f39, f40, f41, f42, f43, f44, f45]
   obtain ⟨gp, e46, hgp, bP⟩ := x46 (hD 46 (by decide))
   have e47 := (x47 (hD 47 (by decide))).trans e46
   simp only [e46, e47]
   clear x46 x47 e46 e47
   have hBS' := hYd (hBS.out.below hP); have HB' := hYd (HB.out.below hP); have HKA' := hYd (kept_call hP HKA.out)
   have ZwC := hP.size
   clear hBS HB HKA hP hT9 hD; have hBS := hBS'; have HB := HB'; have HKA := HKA'; clear hBS' HB' HKA'
   have HBP := hYd bP; have lP0 := bP.lt; clear bP
   obtain ⟨nv, hnv⟩ := vals_get v3 (IntKind.i64.wrap ((d9 : Int) - 5)) e9 he9
   have hpc := ptrs_get gS gE gX j k c hc
   have HNV := hYd hnv; have HPC := hYd hpc; clear hnv hpc
   have wd : IntKind.i64.wrap ((d9 : Int) - 5) = (d9 : Int) - 5 := IntWalk.i64_in _ (by omega)
   rw [wd] at HNV
   have gc1 : decide ((c : Int) < 17) = true := decide_eq_true (by omega)
   have gc2 : decide (c < 17) = true := decide_eq_true hc
   have gc3 : (c : Int) < 17 := by omega
   have ge1 : decide ((e9 : Int) < 6) = true := decide_eq_true (by omega)
   have ge2 : decide (e9 < 6) = true := decide_eq_true he9
   have ge3 : (e9 : Int) < 6 := by omega
   have hst := fun W (h : Below wC.heap.size wC W) => (HB.out.below h).put hc (show j < (⟨sta, loc, p, li, ai, es, xs⟩ : Sch).es.length by show j < es.length; rw [HN.out]; exact hj) (show k < (⟨sta, loc, p, li, ai, es, xs⟩ : Sch).xs.length by show k < xs.length; rw [HM.out]; exact hk) nv
   have HST := hYd hst; clear hst
   go_upto_region 4 with fail
   refine' wp_region_calmD (by kernel_rfl) (fun D u9 w' => (D 17 = false → Below wC.heap.size wC w') ∧ (D 11 = true → ∃ g, u9 11 = .slice (some ⟨g, 0, none⟩) 6 6 ∧ (D 17 = false → Blk w' g 3 (valsC v3 ((d9 : Int) - 5)).toArray)) ∧ (D 14 = true → ∃ g, u9 14 = .pointer (some ⟨g, e9, none⟩) ∧ (D 17 = false → g < w'.heap.size ∧ w'.cell? ⟨g, e9, none⟩ = some (.int .i64 nv))) ∧ (D 17 = true → ∃ W, Below wC.heap.size wC W ∧ w' = W.setCell ⟨ptrB gS gE gX c, ptrO j k c, none⟩ (.int .i64 nv))) (fun _ _ => True) [(Is _), (Is _), (Is _), (Is _), (Is _), (Is _), (Is _), (Is _), (Is _), (Is _), (Is _), (fun _ _ _ => True), (Is _), (Is _), (fun _ _ _ => True), (Is _), (Is _), (fun _ _ _ => True)] [[], [], [], [2], [1, 3], [0, 4], [5], [], [], [8], [9], [7, 10], [], [12], [11, 13], [14], [6], [16, 15]] rfl (calmB_of (by kernel_rfl)) (fun u => by (simp only [calmPut, Act.put, lst, ls0, ls1, Nat.zero_add, Nat.reduceAdd]; rfl)) ?_ (kcc keep_is' (kcc keep_is' (kcc keep_is' (kcc keep_is' (kcc keep_is' (kcc keep_is' (kcc keep_is' (kcc keep_is' (kcc keep_is' (kcc keep_is' (kcc keep_is' (kcc keep_triv (kcc keep_is' (kcc keep_is' (kcc keep_triv (kcc keep_is' (kcc keep_is' (kcc keep_triv (calmKeep_nil))))))))))))))))))) ?_ ?_
   ·exact ⟨(fun _ => (Below.refl _ _).drew), (fun h => by cases h), (fun h => by cases h), (fun h => by cases h)⟩
   rotate_left 15
   ·skip
    refine dc0 (fun uu wq D hC K hK => ?_) ?_
    ·obtain ⟨hA9, x11, x14, xE⟩ := hC
     go_simp
     exact hK _ _ _ rfl ⟨hA9, x11, x14, xE⟩ trivial rfl
    refine dc0 (fun uu wq D hC K hK => ?_) ?_
    ·obtain ⟨hA9, x11, x14, xE⟩ := hC
     go_simp
     exact hK _ _ _ rfl ⟨hA9, x11, x14, xE⟩ trivial rfl
    refine dc0 (fun uu wq D hC K hK => ?_) ?_
    ·obtain ⟨hA9, x11, x14, xE⟩ := hC
     go_simp
     exact hK _ _ _ rfl ⟨hA9, x11, x14, xE⟩ trivial rfl
    refine dc1 (fun uu wq D hC hk K hK => ?_) ?_
    ·obtain ⟨hA9, x11, x14, xE⟩ := hC
     simp only [calmKnown, lg0, lg1, and_true, Is] at hk
     have h2 := hk; clear hk
     simp only [h2] at hK ⊢
     have H2 := hYd h2; clear h2
     go_simp
     exact hK _ _ _ rfl ⟨hA9, x11, x14, xE⟩ trivial rfl
    refine dc2 (fun uu wq D hd hn hn2 hC hk K hK => ?_) ?_
    ·obtain ⟨hA9, x11, x14, xE⟩ := hC
     simp only [calmKnown, lg0, lg1, and_true, Is] at hk
     obtain ⟨h1, h3⟩ := hk
     simp only [h1, h3] at hK ⊢
     have H1 := hYd h1; clear h1; have H3 := hYd h3; clear h3
     have hP := hA9 (hn.out 17 (calmReach_of (by decide) (by kernel_rfl)))
     refine' calm_op ?_ ?_; rfl; go_simp; refine (RCw.out _).mono ?_; rintro e w8 ⟨rfl, hbl⟩; exact hK _ _ _ rfl ⟨(fun _ => kept_call hbl hP), (fun h => by obtain ⟨g, a1, a2⟩ := x11 h; exact ⟨g, a1, fun h2 => Blk.keep hbl (a2 h2)⟩), (fun h => absurd (h.symm.trans (hn.out 14 (calmReach_of (by decide) (by kernel_rfl)))) (by decide)), (fun h => absurd (h.symm.trans (hn.out 17 (calmReach_of (by decide) (by kernel_rfl)))) (by decide))⟩ trivial rfl
    refine dc1 (fun uu wq D hC hk K hK => ?_) ?_
    ·obtain ⟨hA9, x11, x14, xE⟩ := hC
     simp only [calmKnown, lg0, lg1, and_true, Is] at hk
     obtain ⟨h0, h4⟩ := hk
     simp only [h0, h4] at hK ⊢
     have H0 := hYd h0; clear h0; have H4 := hYd h4; clear h4
     go_simp
     exact hK _ _ _ rfl ⟨hA9, x11, x14, xE⟩ trivial rfl
    refine dc2 (fun uu wq D hd hn hn2 hC hk K hK => ?_) ?_
    ·obtain ⟨hA9, x11, x14, xE⟩ := hC
     simp only [calmKnown, lg0, lg1, and_true, Is] at hk
     have h5 := hk; clear hk
     simp only [h5] at hK ⊢
     have H5 := hYd h5; clear h5
     have hP := hA9 (hn.out 17 (calmReach_of (by decide) (by kernel_rfl)))
     have bPP := HBP.out.below hP
     have cpc : wq.cell? ⟨gp, c, none⟩ = some (.pointer (some ⟨ptrB gS gE gX c, ptrO j k c, none⟩)) := (bPP.cell c).trans (by rw [List.getElem?_toArray]; exact HPC.out)
     have lP := bPP.lt
     clear bPP
     go_simp
     exact hK _ _ _ rfl ⟨hA9, x11, x14, xE⟩ trivial rfl
    refine dc0 (fun uu wq D hC K hK => ?_) ?_
    ·obtain ⟨hA9, x11, x14, xE⟩ := hC
     go_simp
     exact hK _ _ _ rfl ⟨hA9, x11, x14, xE⟩ trivial rfl
    refine dc0 (fun uu wq D hC K hK => ?_) ?_
    ·obtain ⟨hA9, x11, x14, xE⟩ := hC
     go_simp
     exact hK _ _ _ rfl ⟨hA9, x11, x14, xE⟩ trivial rfl
    refine dc2 (fun uu wq D hd hn hn2 hC hk K hK => ?_) ?_
    ·obtain ⟨hA9, x11, x14, xE⟩ := hC
     simp only [calmKnown, lg0, lg1, and_true, Is] at hk
     have h8 := hk; clear hk
     simp only [h8] at hK ⊢
     have H8 := hYd h8; clear h8
     have hP := hA9 (hn.out 17 (calmReach_of (by decide) (by kernel_rfl)))
     refine' calm_op ?_ ?_; rfl; go_simp; refine (RDw.out _).mono ?_; rintro e w8 ⟨rfl, hbl⟩; exact hK _ _ _ rfl ⟨(fun _ => kept_call hbl hP), (fun h => by obtain ⟨g, a1, a2⟩ := x11 h; exact ⟨g, a1, fun h2 => Blk.keep hbl (a2 h2)⟩), (fun h => absurd (h.symm.trans (hn.out 14 (calmReach_of (by decide) (by kernel_rfl)))) (by decide)), (fun h => absurd (h.symm.trans (hn.out 17 (calmReach_of (by decide) (by kernel_rfl)))) (by decide))⟩ trivial rfl
    refine dc1 (fun uu wq D hC hk K hK => ?_) ?_
    ·obtain ⟨hA9, x11, x14, xE⟩ := hC
     simp only [calmKnown, lg0, lg1, and_true, Is] at hk
     have h9 := hk; clear hk
     simp only [h9] at hK ⊢
     have H9 := hYd h9; clear h9
     go_simp
     exact hK _ _ _ rfl ⟨hA9, x11, x14, xE⟩ trivial rfl
    refine dc2 (fun uu wq D hd hn hn2 hC hk K hK => ?_) ?_
    ·obtain ⟨hA9, x11, x14, xE⟩ := hC
     simp only [calmKnown, lg0, lg1, and_true, Is] at hk
     obtain ⟨h7, h10⟩ := hk
     simp only [h7, h10] at hK ⊢
     have H7 := hYd h7; clear h7; have H10 := hYd h10; clear h10
     have hP := hA9 (hn.out 17 (calmReach_of (by decide) (by kernel_rfl)))
     have hsz := hP.size
     go_simp
     exact hK _ _ _ rfl ⟨(fun _ => hP.alloc hsz _), (fun _ => ⟨_, rfl, fun _ => Blk.new _ _ _⟩), (fun h => absurd (h.symm.trans (hn.out 14 (calmReach_of (by decide) (by kernel_rfl)))) (by decide)), (fun h => absurd (h.symm.trans (hn.out 17 (calmReach_of (by decide) (by kernel_rfl)))) (by decide))⟩ trivial trivial
    refine dc0 (fun uu wq D hC K hK => ?_) ?_
    ·obtain ⟨hA9, x11, x14, xE⟩ := hC
     go_simp
     exact hK _ _ _ rfl ⟨hA9, x11, x14, xE⟩ trivial rfl
    refine dc2 (fun uu wq D hd hn hn2 hC hk K hK => ?_) ?_
    ·obtain ⟨hA9, x11, x14, xE⟩ := hC
     simp only [calmKnown, lg0, lg1, and_true, Is] at hk
     have h12 := hk; clear hk
     simp only [h12] at hK ⊢
     have H12 := hYd h12; clear h12
     have hP := hA9 (hn.out 17 (calmReach_of (by decide) (by kernel_rfl)))
     refine' calm_op ?_ ?_; rfl; go_simp; refine (REw.out _).mono ?_; rintro e w8 ⟨rfl, hbl⟩; exact hK _ _ _ rfl ⟨(fun _ => kept_call hbl hP), (fun h => by obtain ⟨g, a1, a2⟩ := x11 h; exact ⟨g, a1, fun h2 => Blk.keep hbl (a2 h2)⟩), (fun h => absurd (h.symm.trans (hn.out 14 (calmReach_of (by decide) (by kernel_rfl)))) (by decide)), (fun h => absurd (h.symm.trans (hn.out 17 (calmReach_of (by decide) (by kernel_rfl)))) (by decide))⟩ trivial rfl
    refine dc2 (fun uu wq D hd hn hn2 hC hk K hK => ?_) ?_
    ·obtain ⟨hA9, x11, x14, xE⟩ := hC
     simp only [calmKnown, lg0, lg1, and_true, Is] at hk
     obtain ⟨-, h13⟩ := hk
     simp only [h13] at hK ⊢
     have H13 := hYd h13; clear h13
     have hP := hA9 (hn.out 17 (calmReach_of (by decide) (by kernel_rfl)))
     obtain ⟨g11, e11, b11⟩ := x11 (hn2.out 11 (calmReach_of (by decide) (by kernel_rfl)))
     have b12 := b11 (hn.out 17 (calmReach_of (by decide) (by kernel_rfl)))
     have cz : wq.cell? ⟨g11, e9, none⟩ = some (.int .i64 nv) := (b12.cell e9).trans (by rw [List.getElem?_toArray]; exact HNV.out)
     have lz9 := b12.lt
     simp only [e11] at hK ⊢
     go_simp
     exact hK _ _ _ rfl ⟨hA9, x11, (fun _ => ⟨g11, rfl, fun _ => ⟨lz9, cz⟩⟩), xE⟩ trivial trivial
    refine dc2 (fun uu wq D hd hn hn2 hC hk K hK => ?_) ?_
    ·obtain ⟨hA9, x11, x14, xE⟩ := hC
     simp only [calmKnown, lg0, lg1, and_true, Is] at hk
     clear hk
     have hP := hA9 (hn.out 17 (calmReach_of (by decide) (by kernel_rfl)))
     obtain ⟨g14, e14, b14⟩ := x14 (hn2.out 14 (calmReach_of (by decide) (by kernel_rfl)))
     obtain ⟨lz9, cz⟩ := b14 (hn.out 17 (calmReach_of (by decide) (by kernel_rfl)))
     simp only [e14] at hK ⊢
     go_simp
     exact hK _ _ _ rfl ⟨hA9, x11, x14, xE⟩ trivial rfl
    refine dc1 (fun uu wq D hC hk K hK => ?_) ?_
    ·obtain ⟨hA9, x11, x14, xE⟩ := hC
     simp only [calmKnown, lg0, lg1, and_true, Is] at hk
     have h6 := hk; clear hk
     simp only [h6] at hK ⊢
     have H6 := hYd h6; clear h6
     go_simp
     exact hK _ _ _ rfl ⟨hA9, x11, x14, xE⟩ trivial rfl
    refine dSteps_cons (fun uu wq D hd hn hn2 hC hk K hK => ?_) ?_
    ·obtain ⟨hA9, x11, x14, xE⟩ := hC
     clear hn hn2
     simp only [calmKnown, lg0, lg1, and_true, Is] at hk
     obtain ⟨h16, h15⟩ := hk
     simp only [h16, h15] at hK ⊢
     have H16 := hYd h16; clear h16; have H15 := hYd h15; clear h15
     have hP := hA9 hd
     obtain ⟨⟨ov, hco⟩, hfr, -⟩ := HST.out wq hP
     go_simp
     exact hK _ undef (wq.setCell ⟨ptrB gS gE gX c, ptrO j k c, none⟩ (.int .i64 nv)) rfl ⟨(fun h => by cases h), (fun h => by obtain ⟨g, a1, a2⟩ := x11 h; exact ⟨g, a1, fun h2 => by cases h2⟩), (fun h => by obtain ⟨g, a1, a2⟩ := x14 h; exact ⟨g, a1, fun h2 => by cases h2⟩), (fun _ => ⟨wq, hP, rfl⟩)⟩ trivial trivial
    exact dSteps_nil
   ·intro uu wz D hD hC hF
    obtain ⟨hA9, x11, x14, xE⟩ := hC
    simp only [calmFacts, Is, and_true, true_and] at hF
    obtain ⟨f0, f1, f2, f3, f4, f5, f6, f7, f8, f9, f10, f12, f13, f15, f16⟩ := hF
    simp only [f0, f1, f2, f3, f4, f5, f6, f7, f8, f9, f10, f12, f13, f15, f16]
    obtain ⟨W, hW, hwz⟩ := xE (hD 17 (by decide))
    obtain ⟨-, -, hB2, hl1, hl2⟩ := HST.out W hW
    have hKD : Below w.heap.size w wz := by rw [hwz]; exact (kept_call hW HKA.out).setCell (show w.heap.size ≤ ptrB gS gE gX c by unfold ptrB; split <;> first | omega | (split <;> omega)) _
    have lW := hW.size
    have lwz : W.heap.size ≤ wz.heap.size := by rw [hwz]; simp [World.setCell]
    rw [← hwz] at hB2
    clear x11 x14 xE hA9 hD hW hwz HST HB HKA hBS HBP HNV HPC
    obtain ⟨T, hT⟩ : ∃ T, (⟨sta, loc, p, li, ai, es, xs⟩ : Sch).put c j k nv = T := ⟨_, rfl⟩
    rw [hT] at hB2 hl1 hl2
    clear hT
    have hn1 : T.es.length = n := hl1.trans HN.out
    have hm1 : T.xs.length = m := hl2.trans HM.out
    clear hl1 hl2
    have hbt := hB2.1
    have hat := hB2.at_ (by omega) (by omega)
    clear hB2
    have RI := hYd (fun W h => ilies_u T (some ⟨gE, 0, none⟩) (some ⟨gX, 0, none⟩) ecap scap W h); have RJ := hYd (fun W h => rlies_u T (some ⟨gE, 0, none⟩) (some ⟨gX, 0, none⟩) ecap scap W h)
    have RK := hYd (fun W h => irun_u T (some ⟨gE, 0, none⟩) (some ⟨gX, 0, none⟩) ecap scap W h); have RL := hYd (fun W h => rrun_u T (some ⟨gE, 0, none⟩) (some ⟨gX, 0, none⟩) ecap scap W h)
    have RM := hYd (fun W h => icheck_any T (some ⟨gE, 0, none⟩) (some ⟨gX, 0, none⟩) ecap scap W h); have RN := hYd (fun W h => rcheck_any T (some ⟨gE, 0, none⟩) (some ⟨gX, 0, none⟩) ecap scap W h)
    have hzl := lz_len T
    obtain ⟨nl, hnl⟩ : ∃ n, (lz T).length = n := ⟨_, rfl⟩
    obtain ⟨er, her⟩ : ∃ er, chkE T = er := ⟨_, rfl⟩
    unfold LieU at RI RJ
    unfold RunU at RK RL
    simp only [hnl, her, hn1, hm1] at RI RJ RK RL RM RN
    rw [hnl] at hzl
    rw [hn1, hm1] at hbt
    have HNL := hYd hnl; clear hnl her hn1 hm1
    have HAT := hYd hat; clear hat
    obtain ⟨t0, t1, t2, t3, t4, t5, t6⟩ := T
    dsimp only at hbt RI RJ RK RL RM RN
    have hqR : Past [] w wz := Past.below hKD
    have lgS : gS < wz.heap.size := hbt.lt
    have bS := hbt; clear hbt
    obtain ⟨cS, fS, lS, eS, kS⟩ := Blk.facts bS
    go_wp2_with fail
    refine (RK.out _ (HAT.out.below bl0)).mono ?_
    rintro e v11 ⟨rs, B3, e3, hz3, rfl, ns3, hb⟩
    have hq : Past [] _ v11 := Past.below hb
    have hq0 : Past [] _ v11 := Past.below hb
    clear hb
    have HN3 := hYd ns3; have HZ3 := hYd hz3; clear ns3 hz3
    replace HAT := hYd (HAT.out.below (Past.toBelow hq0))
    have Kv11 : Past [] w v11 := Past.trans pa1 hq
    have Zv11 : wz.heap.size ≤ v11.heap.size := Nat.le_trans (by first | exact Nat.le_refl _ | omega | (simp <;> omega)) hq.1
    have bS' : Blk v11 (gS) 54 #[.int .i64 t0, .int .i64 t1, .int .i64 t2, .int .i64 t3, .int .i64 t4, .slice (some ⟨gE, 0, none⟩) n ecap, .slice (some ⟨gX, 0, none⟩) m scap] := hq0.blk (bn1) (by simp <;> omega)
    clear hq hqR
    clear bS cS fS lS eS kS; have bS := bS'; clear bS'
    obtain ⟨cS, fS, lS, eS, kS⟩ := Blk.facts bS
    clear hq0
    go_wp2_with fail
    refine (RL.out _ (HAT.out.below bl0)).mono ?_
    rintro e v12 ⟨rs', B4, e4, hz4, rfl, ns4, hb⟩
    have hq : Past [] _ v12 := Past.below hb
    have hq0 : Past [] _ v12 := Past.below hb
    clear hb
    have HN4 := hYd ns4
    replace HAT := hYd (HAT.out.below (Past.toBelow hq0))
    replace HN3 := hYd (HN3.out.below (Past.toBelow hq0))
    obtain rfl := RunZ.uniq HZ3.out hz4
    clear hz4 ns4
    have Kv12 : Past [] w v12 := Past.trans pa1 hq
    have Zv12 : v11.heap.size ≤ v12.heap.size := Nat.le_trans (by first | exact Nat.le_refl _ | omega | (simp <;> omega)) hq.1
    have bS' : Blk v12 (gS) 54 #[.int .i64 t0, .int .i64 t1, .int .i64 t2, .int .i64 t3, .int .i64 t4, .slice (some ⟨gE, 0, none⟩) n ecap, .slice (some ⟨gX, 0, none⟩) m scap] := hq0.blk (bn1) (by simp <;> omega)
    clear hq Kv11
    clear bS cS fS lS eS kS; have bS := bS'; clear bS'
    obtain ⟨cS, fS, lS, eS, kS⟩ := Blk.facts bS
    clear hq0
    go_wp2_with fail
    refine (RI.out _ (HAT.out.below bl0)).mono ?_
    rintro e v13 ⟨B1, e1, rfl, ns1, hb⟩
    have hq : Past [] _ v13 := Past.below hb
    have hq0 : Past [] _ v13 := Past.below hb
    clear hb
    have HN1 := hYd ns1; clear ns1
    replace HAT := hYd (HAT.out.below (Past.toBelow hq0))
    replace HN3 := hYd (HN3.out.below (Past.toBelow hq0))
    replace HN4 := hYd (HN4.out.below (Past.toBelow hq0))
    have Kv13 : Past [] w v13 := Past.trans pa1 hq
    have Zv13 : v12.heap.size ≤ v13.heap.size := Nat.le_trans (by first | exact Nat.le_refl _ | omega | (simp <;> omega)) hq.1
    have bS' : Blk v13 (gS) 54 #[.int .i64 t0, .int .i64 t1, .int .i64 t2, .int .i64 t3, .int .i64 t4, .slice (some ⟨gE, 0, none⟩) n ecap, .slice (some ⟨gX, 0, none⟩) m scap] := hq0.blk (bn1) (by simp <;> omega)
    clear hq Kv12
    clear bS cS fS lS eS kS; have bS := bS'; clear bS'
    obtain ⟨cS, fS, lS, eS, kS⟩ := Blk.facts bS
    clear hq0
    go_wp2_with fail
    refine (RJ.out _ (HAT.out.below bl0)).mono ?_
    rintro e v14 ⟨B2, e2, rfl, ns2, hb⟩
    have hq : Past [] _ v14 := Past.below hb
    have hq0 : Past [] _ v14 := Past.below hb
    clear hb
    have HN2 := hYd ns2; clear ns2
    replace HAT := hYd (HAT.out.below (Past.toBelow hq0))
    replace HN3 := hYd (HN3.out.below (Past.toBelow hq0))
    replace HN4 := hYd (HN4.out.below (Past.toBelow hq0))
    replace HN1 := hYd (HN1.out.below (Past.toBelow hq0))
    have Kv14 : Past [] w v14 := Past.trans pa1 hq
    have Zv14 : v13.heap.size ≤ v14.heap.size := Nat.le_trans (by first | exact Nat.le_refl _ | omega | (simp <;> omega)) hq.1
    have bS' : Blk v14 (gS) 54 #[.int .i64 t0, .int .i64 t1, .int .i64 t2, .int .i64 t3, .int .i64 t4, .slice (some ⟨gE, 0, none⟩) n ecap, .slice (some ⟨gX, 0, none⟩) m scap] := hq0.blk (bn1) (by simp <;> omega)
    clear hq Kv13
    clear bS cS fS lS eS kS; have bS := bS'; clear bS'
    obtain ⟨cS, fS, lS, eS, kS⟩ := Blk.facts bS
    clear hq0
    have hrl := HZ3.out.len
    obtain ⟨nr, hnr⟩ : ∃ n, rs.length = n := ⟨_, rfl⟩
    rw [hnr] at hrl ⊢
    have HNR := hYd hnr; clear hnr RI RJ RK RL
    have RS1 := hYd (fun W h k => nsame41_yes B1 B2 e1 e2 _ nl HNL.out (by omega) W h k)
    have RS2 := hYd (fun W h k => rsame41_yes B3 B4 e3 e4 rs nr HNR.out (by omega) W h k)
    go_upto_region 9 with fail
    refine' wp_region_calmD (by kernel_rfl) (fun D u9 w' => Below v14.heap.size v14 w' ∧ Blk w' gS 54 #[.int .i64 t0, .int .i64 t1, .int .i64 t2, .int .i64 t3, .int .i64 t4, .slice (some ⟨gE, 0, none⟩) n ecap, .slice (some ⟨gX, 0, none⟩) m scap]) (fun _ _ => True) [(Is _), (Is _), (Is _), (Is _), (Is _), (Is _), (Is _), (Is _), (Is _), (Is _), (Is _), (Is _), (Is _), (Is _), (Is _), (Is _), (Is _), (Is _), (Is _), (Is _), (Is _), (Is _), (Is _), (Is _), (Is _), (Is _), (Is _), (Is _), (Is _)] [[], [0], [1], [2, 1], [1], [4, 1], [3, 5, 1], [1, 6], [7], [8], [8], [9, 10, 8], [8, 11], [12], [13], [13], [14, 15, 13], [13, 16], [17], [18], [18], [19, 20, 18], [18, 21], [22], [23], [23], [24, 25, 23], [23, 26], [27]] rfl (calmB_of (by kernel_rfl)) (fun u => by (simp only [calmPut, Act.put, lst, ls0, ls1, Nat.zero_add, Nat.reduceAdd]; rfl)) ?_ (kcc keep_is' (kcc keep_is' (kcc keep_is' (kcc keep_is' (kcc keep_is' (kcc keep_is' (kcc keep_is' (kcc keep_is' (kcc keep_is' (kcc keep_is' (kcc keep_is' (kcc keep_is' (kcc keep_is' (kcc keep_is' (kcc keep_is' (kcc keep_is' (kcc keep_is' (kcc keep_is' (kcc keep_is' (kcc keep_is' (kcc keep_is' (kcc keep_is' (kcc keep_is' (kcc keep_is' (kcc keep_is' (kcc keep_is' (kcc keep_is' (kcc keep_is' (kcc keep_is' (calmKeep_nil)))))))))))))))))))))))))))))) ?_ ?_
    ·exact ⟨(Below.refl _ _).drew, bS.drew⟩
    rotate_left 29
    ·skip
     refine dc0 (fun uu wq D hC K hK => ?_) ?_
     ·obtain ⟨hP, mS⟩ := hC
      first
       | (refine' calm_op ?_ ?_; rfl; go_simp; (first | (with_reducible refine (known41_any _).mono ?_) | (with_reducible refine (RM.out _ (HAT.out.below hP)).mono ?_) | (with_reducible refine (RN.out _ (HAT.out.below hP)).mono ?_) | (with_reducible refine (RS1.out _ (HN1.out.below hP) (HN2.out.below hP)).mono ?_) | (with_reducible refine (RS2.out _ (HN3.out.below hP) (HN4.out.below hP)).mono ?_)); rintro e w2 ⟨rfl, hbl⟩; exact hK _ _ _ rfl ⟨kept_call hbl hP, Blk.keep hbl mS⟩ trivial rfl)
       | (go_simp; exact hK _ _ _ rfl ⟨hP, mS⟩ trivial rfl)
     refine dc1 (fun uu wq D hC hk K hK => ?_) ?_
     ·obtain ⟨hP, mS⟩ := hC
      simp only [calmKnown, lg0, lg1, and_true, Is] at hk
      have h0 := hk; clear hk
      simp only [h0] at hK ⊢
      have H0 := hYd h0; clear h0
      go_simp
      exact hK _ _ _ rfl ⟨hP, mS⟩ trivial rfl
     refine dc1 (fun uu wq D hC hk K hK => ?_) ?_
     ·obtain ⟨hP, mS⟩ := hC
      simp only [calmKnown, lg0, lg1, and_true, Is] at hk
      have h1 := hk; clear hk
      simp only [h1] at hK ⊢
      have H1 := hYd h1; clear h1
      have cS := mS.cell; have lS := mS.lt
      go_simp
      exact hK _ _ _ rfl ⟨hP, mS⟩ trivial rfl
     refine dc1 (fun uu wq D hC hk K hK => ?_) ?_
     ·obtain ⟨hP, mS⟩ := hC
      simp only [calmKnown, lg0, lg1, and_true, Is] at hk
      obtain ⟨h2, h1⟩ := hk
      simp only [h2, h1] at hK ⊢
      have H2 := hYd h2; clear h2; have H1 := hYd h1; clear h1
      first
       | (refine' calm_op ?_ ?_; rfl; go_simp; (first | (with_reducible refine (known41_any _).mono ?_) | (with_reducible refine (RM.out _ (HAT.out.below hP)).mono ?_) | (with_reducible refine (RN.out _ (HAT.out.below hP)).mono ?_) | (with_reducible refine (RS1.out _ (HN1.out.below hP) (HN2.out.below hP)).mono ?_) | (with_reducible refine (RS2.out _ (HN3.out.below hP) (HN4.out.below hP)).mono ?_)); rintro e w2 ⟨rfl, hbl⟩; exact hK _ _ _ rfl ⟨kept_call hbl hP, Blk.keep hbl mS⟩ trivial rfl)
       | (go_simp; exact hK _ _ _ rfl ⟨hP, mS⟩ trivial rfl)
     refine dc1 (fun uu wq D hC hk K hK => ?_) ?_
     ·obtain ⟨hP, mS⟩ := hC
      simp only [calmKnown, lg0, lg1, and_true, Is] at hk
      have h1 := hk; clear hk
      simp only [h1] at hK ⊢
      have H1 := hYd h1; clear h1
      have cS := mS.cell; have lS := mS.lt
      go_simp
      exact hK _ _ _ rfl ⟨hP, mS⟩ trivial rfl
     refine dc1 (fun uu wq D hC hk K hK => ?_) ?_
     ·obtain ⟨hP, mS⟩ := hC
      simp only [calmKnown, lg0, lg1, and_true, Is] at hk
      obtain ⟨h4, h1⟩ := hk
      simp only [h4, h1] at hK ⊢
      have H4 := hYd h4; clear h4; have H1 := hYd h1; clear h1
      first
       | (refine' calm_op ?_ ?_; rfl; go_simp; (first | (with_reducible refine (known41_any _).mono ?_) | (with_reducible refine (RM.out _ (HAT.out.below hP)).mono ?_) | (with_reducible refine (RN.out _ (HAT.out.below hP)).mono ?_) | (with_reducible refine (RS1.out _ (HN1.out.below hP) (HN2.out.below hP)).mono ?_) | (with_reducible refine (RS2.out _ (HN3.out.below hP) (HN4.out.below hP)).mono ?_)); rintro e w2 ⟨rfl, hbl⟩; exact hK _ _ _ rfl ⟨kept_call hbl hP, Blk.keep hbl mS⟩ trivial rfl)
       | (go_simp; exact hK _ _ _ rfl ⟨hP, mS⟩ trivial rfl)
     refine dc1 (fun uu wq D hC hk K hK => ?_) ?_
     ·obtain ⟨hP, mS⟩ := hC
      simp only [calmKnown, lg0, lg1, and_true, Is] at hk
      obtain ⟨h3, h5, h1⟩ := hk
      simp only [h3, h5, h1] at hK ⊢
      have H3 := hYd h3; clear h3; have H5 := hYd h5; clear h5; have H1 := hYd h1; clear h1
      go_simp
      exact hK _ _ _ rfl ⟨hP, mS⟩ trivial rfl
     refine dc1 (fun uu wq D hC hk K hK => ?_) ?_
     ·obtain ⟨hP, mS⟩ := hC
      simp only [calmKnown, lg0, lg1, and_true, Is] at hk
      obtain ⟨h1, h6⟩ := hk
      simp only [h1, h6] at hK ⊢
      have H1 := hYd h1; clear h1; have H6 := hYd h6; clear h6
      go_simp
      exact hK _ _ _ rfl ⟨hP, mS⟩ trivial rfl
     refine dc1 (fun uu wq D hC hk K hK => ?_) ?_
     ·obtain ⟨hP, mS⟩ := hC
      simp only [calmKnown, lg0, lg1, and_true, Is] at hk
      have h7 := hk; clear hk
      simp only [h7] at hK ⊢
      have H7 := hYd h7; clear h7
      go_simp
      exact hK _ _ _ rfl ⟨hP, mS⟩ trivial rfl
     refine dc1 (fun uu wq D hC hk K hK => ?_) ?_
     ·obtain ⟨hP, mS⟩ := hC
      simp only [calmKnown, lg0, lg1, and_true, Is] at hk
      have h8 := hk; clear hk
      simp only [h8] at hK ⊢
      have H8 := hYd h8; clear h8
      go_simp
      exact hK _ _ _ rfl ⟨hP, mS⟩ trivial rfl
     refine dc1 (fun uu wq D hC hk K hK => ?_) ?_
     ·obtain ⟨hP, mS⟩ := hC
      simp only [calmKnown, lg0, lg1, and_true, Is] at hk
      have h8 := hk; clear hk
      simp only [h8] at hK ⊢
      have H8 := hYd h8; clear h8
      go_simp
      exact hK _ _ _ rfl ⟨hP, mS⟩ trivial rfl
     refine dc1 (fun uu wq D hC hk K hK => ?_) ?_
     ·obtain ⟨hP, mS⟩ := hC
      simp only [calmKnown, lg0, lg1, and_true, Is] at hk
      obtain ⟨h9, h10, h8⟩ := hk
      simp only [h9, h10, h8] at hK ⊢
      have H9 := hYd h9; clear h9; have H10 := hYd h10; clear h10; have H8 := hYd h8; clear h8
      first
       | (refine' calm_op ?_ ?_; rfl; go_simp; (first | (with_reducible refine (known41_any _).mono ?_) | (with_reducible refine (RM.out _ (HAT.out.below hP)).mono ?_) | (with_reducible refine (RN.out _ (HAT.out.below hP)).mono ?_) | (with_reducible refine (RS1.out _ (HN1.out.below hP) (HN2.out.below hP)).mono ?_) | (with_reducible refine (RS2.out _ (HN3.out.below hP) (HN4.out.below hP)).mono ?_)); rintro e w2 ⟨rfl, hbl⟩; exact hK _ _ _ rfl ⟨kept_call hbl hP, Blk.keep hbl mS⟩ trivial rfl)
       | (go_simp; exact hK _ _ _ rfl ⟨hP, mS⟩ trivial rfl)
     refine dc1 (fun uu wq D hC hk K hK => ?_) ?_
     ·obtain ⟨hP, mS⟩ := hC
      simp only [calmKnown, lg0, lg1, and_true, Is] at hk
      obtain ⟨h8, h11⟩ := hk
      simp only [h8, h11] at hK ⊢
      have H8 := hYd h8; clear h8; have H11 := hYd h11; clear h11
      go_simp
      exact hK _ _ _ rfl ⟨hP, mS⟩ trivial rfl
     refine dc1 (fun uu wq D hC hk K hK => ?_) ?_
     ·obtain ⟨hP, mS⟩ := hC
      simp only [calmKnown, lg0, lg1, and_true, Is] at hk
      have h12 := hk; clear hk
      simp only [h12] at hK ⊢
      have H12 := hYd h12; clear h12
      go_simp
      exact hK _ _ _ rfl ⟨hP, mS⟩ trivial rfl
     refine dc1 (fun uu wq D hC hk K hK => ?_) ?_
     ·obtain ⟨hP, mS⟩ := hC
      simp only [calmKnown, lg0, lg1, and_true, Is] at hk
      have h13 := hk; clear hk
      simp only [h13] at hK ⊢
      have H13 := hYd h13; clear h13
      go_simp
      exact hK _ _ _ rfl ⟨hP, mS⟩ trivial rfl
     refine dc1 (fun uu wq D hC hk K hK => ?_) ?_
     ·obtain ⟨hP, mS⟩ := hC
      simp only [calmKnown, lg0, lg1, and_true, Is] at hk
      have h13 := hk; clear hk
      simp only [h13] at hK ⊢
      have H13 := hYd h13; clear h13
      go_simp
      exact hK _ _ _ rfl ⟨hP, mS⟩ trivial rfl
     refine dc1 (fun uu wq D hC hk K hK => ?_) ?_
     ·obtain ⟨hP, mS⟩ := hC
      simp only [calmKnown, lg0, lg1, and_true, Is] at hk
      obtain ⟨h14, h15, h13⟩ := hk
      simp only [h14, h15, h13] at hK ⊢
      have H14 := hYd h14; clear h14; have H15 := hYd h15; clear h15; have H13 := hYd h13; clear h13
      go_simp
      exact hK _ _ _ rfl ⟨hP, mS⟩ trivial rfl
     refine dc1 (fun uu wq D hC hk K hK => ?_) ?_
     ·obtain ⟨hP, mS⟩ := hC
      simp only [calmKnown, lg0, lg1, and_true, Is] at hk
      obtain ⟨h13, h16⟩ := hk
      simp only [h13, h16] at hK ⊢
      have H13 := hYd h13; clear h13; have H16 := hYd h16; clear h16
      go_simp
      exact hK _ _ _ rfl ⟨hP, mS⟩ trivial rfl
     refine dc1 (fun uu wq D hC hk K hK => ?_) ?_
     ·obtain ⟨hP, mS⟩ := hC
      simp only [calmKnown, lg0, lg1, and_true, Is] at hk
      have h17 := hk; clear hk
      simp only [h17] at hK ⊢
      have H17 := hYd h17; clear h17
      go_simp
      exact hK _ _ _ rfl ⟨hP, mS⟩ trivial rfl
     refine dc1 (fun uu wq D hC hk K hK => ?_) ?_
     ·obtain ⟨hP, mS⟩ := hC
      simp only [calmKnown, lg0, lg1, and_true, Is] at hk
      have h18 := hk; clear hk
      simp only [h18] at hK ⊢
      have H18 := hYd h18; clear h18
      go_simp
      exact hK _ _ _ rfl ⟨hP, mS⟩ trivial rfl
     refine dc1 (fun uu wq D hC hk K hK => ?_) ?_
     ·obtain ⟨hP, mS⟩ := hC
      simp only [calmKnown, lg0, lg1, and_true, Is] at hk
      have h18 := hk; clear hk
      simp only [h18] at hK ⊢
      have H18 := hYd h18; clear h18
      go_simp
      exact hK _ _ _ rfl ⟨hP, mS⟩ trivial rfl
     refine dc1 (fun uu wq D hC hk K hK => ?_) ?_
     ·obtain ⟨hP, mS⟩ := hC
      simp only [calmKnown, lg0, lg1, and_true, Is] at hk
      obtain ⟨h19, h20, h18⟩ := hk
      simp only [h19, h20, h18] at hK ⊢
      have H19 := hYd h19; clear h19; have H20 := hYd h20; clear h20; have H18 := hYd h18; clear h18
      first
       | (refine' calm_op ?_ ?_; rfl; go_simp; (first | (with_reducible refine (known41_any _).mono ?_) | (with_reducible refine (RM.out _ (HAT.out.below hP)).mono ?_) | (with_reducible refine (RN.out _ (HAT.out.below hP)).mono ?_) | (with_reducible refine (RS1.out _ (HN1.out.below hP) (HN2.out.below hP)).mono ?_) | (with_reducible refine (RS2.out _ (HN3.out.below hP) (HN4.out.below hP)).mono ?_)); rintro e w2 ⟨rfl, hbl⟩; exact hK _ _ _ rfl ⟨kept_call hbl hP, Blk.keep hbl mS⟩ trivial rfl)
       | (go_simp; exact hK _ _ _ rfl ⟨hP, mS⟩ trivial rfl)
     refine dc1 (fun uu wq D hC hk K hK => ?_) ?_
     ·obtain ⟨hP, mS⟩ := hC
      simp only [calmKnown, lg0, lg1, and_true, Is] at hk
      obtain ⟨h18, h21⟩ := hk
      simp only [h18, h21] at hK ⊢
      have H18 := hYd h18; clear h18; have H21 := hYd h21; clear h21
      go_simp
      exact hK _ _ _ rfl ⟨hP, mS⟩ trivial rfl
     refine dc1 (fun uu wq D hC hk K hK => ?_) ?_
     ·obtain ⟨hP, mS⟩ := hC
      simp only [calmKnown, lg0, lg1, and_true, Is] at hk
      have h22 := hk; clear hk
      simp only [h22] at hK ⊢
      have H22 := hYd h22; clear h22
      go_simp
      exact hK _ _ _ rfl ⟨hP, mS⟩ trivial rfl
     refine dc1 (fun uu wq D hC hk K hK => ?_) ?_
     ·obtain ⟨hP, mS⟩ := hC
      simp only [calmKnown, lg0, lg1, and_true, Is] at hk
      have h23 := hk; clear hk
      simp only [h23] at hK ⊢
      have H23 := hYd h23; clear h23
      go_simp
      exact hK _ _ _ rfl ⟨hP, mS⟩ trivial rfl
     refine dc1 (fun uu wq D hC hk K hK => ?_) ?_
     ·obtain ⟨hP, mS⟩ := hC
      simp only [calmKnown, lg0, lg1, and_true, Is] at hk
      have h23 := hk; clear hk
      simp only [h23] at hK ⊢
      have H23 := hYd h23; clear h23
      go_simp
      exact hK _ _ _ rfl ⟨hP, mS⟩ trivial rfl
     refine dc1 (fun uu wq D hC hk K hK => ?_) ?_
     ·obtain ⟨hP, mS⟩ := hC
      simp only [calmKnown, lg0, lg1, and_true, Is] at hk
      obtain ⟨h24, h25, h23⟩ := hk
      simp only [h24, h25, h23] at hK ⊢
      have H24 := hYd h24; clear h24; have H25 := hYd h25; clear h25; have H23 := hYd h23; clear h23
      go_simp
      exact hK _ _ _ rfl ⟨hP, mS⟩ trivial rfl
     refine dc1 (fun uu wq D hC hk K hK => ?_) ?_
     ·obtain ⟨hP, mS⟩ := hC
      simp only [calmKnown, lg0, lg1, and_true, Is] at hk
      obtain ⟨h23, h26⟩ := hk
      simp only [h23, h26] at hK ⊢
      have H23 := hYd h23; clear h23; have H26 := hYd h26; clear h26
      go_simp
      exact hK _ _ _ rfl ⟨hP, mS⟩ trivial rfl
     refine dc1 (fun uu wq D hC hk K hK => ?_) ?_
     ·obtain ⟨hP, mS⟩ := hC
      simp only [calmKnown, lg0, lg1, and_true, Is] at hk
      have h27 := hk; clear hk
      simp only [h27] at hK ⊢
      have H27 := hYd h27; clear h27
      go_simp
      exact hK _ _ _ rfl ⟨hP, mS⟩ trivial rfl
     exact dSteps_nil
    ·intro uu wy D hD hC hF
     obtain ⟨hP, mS⟩ := hC
     simp only [calmFacts, Is, and_true, true_and] at hF
     obtain ⟨f0, f1, f2, f3, f4, f5, f6, f7, f8, f9, f10, f11, f12, f13, f14, f15, f16, f17, f18, f19, f20, f21, f22, f23, f24, f25, f26, f27, f28⟩ := hF
     simp only [f0, f1, f2, f3, f4, f5, f6, f7, f8, f9, f10, f11, f12, f13, f14, f15, f16, f17, f18, f19, f20, f21, f22, f23, f24, f25, f26, f27, f28]
     have KZ := kept_call hP (Past.toBelow pa1)
     have HKZ := hYd KZ; clear KZ hP mS hD
     go_wp2
     first | (go_ret; exact ⟨rfl, HKZ.out⟩) | (refine bodyPost_ret (v := .bool true) (by simp [results, Tryz.results7, go_sem, *]) rfl ⟨rfl, HKZ.out⟩)
end Go.Proofs.YtlnboheahbfgfaaGreat
