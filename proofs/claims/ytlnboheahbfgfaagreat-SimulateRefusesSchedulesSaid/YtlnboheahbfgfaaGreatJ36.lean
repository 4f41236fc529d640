/- Texts joined: Sim2, Sim3 -/
import Derived.Test.YtlnboheahbfgfaaGreatJ26
import Derived.Test.YtlnboheahbfgfaaGreatJ35
import Derived.Test.YtlnboheahbfgfaaGreatJ12
import Derived.Test.YtlnboheahbfgfaaGreatJ31
import Derived.Test.YtlnboheahbfgfaaGreatJ29
import Derived.Test.YtlnboheahbfgfaaGreatJ32
namespace Go.Proofs.YtlnboheahbfgfaaGreat
open Go.RowKit
set_option linter.unusedSimpArgs false
set_option linter.unusedVariables false

def kwC (k : Kw) : List Value := .bool k.1 :: k.2.cs
def PP (X : List Nat) (w W : World) : Prop := Past X w W
theorem PP.below {X : List Nat} {w W W' : World} (h : PP X w W) (hb : Below W.heap.size W W') : PP X w W' := Past.trans h (Past.below hb)
theorem Past.call {X : List Nat} {w W W' : World} (h : Past X w W) (hb : Below W.heap.size W W') : Past X w W' := Past.trans h (Past.below hb)
theorem setArr_size : ∀ (l : List Value) (i : Nat) (cs : Array Value), (setArr cs i l).size = cs.size
 | [], _, _ => rfl
 | v :: l, i, cs => (setArr_size l (i + 1) _).trans (by simp)
theorem setArr_get : ∀ (l : List Value) (i : Nat) (cs : Array Value) (j : Nat), i + l.length ≤ cs.size → (setArr cs i l)[j]? = if i ≤ j ∧ j < i + l.length then l[j - i]? else cs[j]?
 | [], i, cs, j, _ => by simp only [setArr, List.length_nil]; rw [if_neg (by omega)]
 | v :: l, i, cs, j, h => by
  simp only [setArr, List.length_cons] at *
  rw [setArr_get l (i + 1) _ j (by simp; omega), Array.getElem?_setIfInBounds]
  by_cases e : i = j
  ·subst e
   rw [if_neg (by omega), if_pos rfl, if_pos (by omega), if_pos (by omega), Nat.sub_self]; rfl
  ·rw [if_neg e]
   by_cases e2 : i + 1 ≤ j ∧ j < i + 1 + l.length
   ·rw [if_pos e2, if_pos (by omega), show j - i = (j - (i + 1)) + 1 by omega]; rfl
   ·rw [if_neg e2, if_neg (by omega)]
theorem setArr_comm (v : Value) (o : Nat) : ∀ (l : List Value) (i : Nat) (cs : Array Value), o < i → (setArr cs i l).setIfInBounds o v = setArr (cs.setIfInBounds o v) i l
 | [], _, _, _ => rfl
 | x :: l, i, cs, h => by
  simp only [setArr]
  rw [setArr_comm v o l (i + 1) _ (by omega)]
  congr 1
  apply Array.ext_getElem?
  intro j
  simp only [Array.getElem?_setIfInBounds, Array.size_setIfInBounds]
  by_cases e : o = j
  ·subst e; simp [show ¬ i = o by omega]
  ·rw [if_neg e]
   by_cases e2 : i = j
   ·subst e2; have h3 : ¬ i = o := by omega
    simp [h3]
   ·rw [if_neg e2, if_neg e2, if_neg e]
theorem setArr_same {cs : Array Value} : ∀ {l : List Value} {i : Nat}, (∀ j, j < l.length → cs[i + j]? = l[j]?) → setArr cs i l = cs
 | [], _, _ => rfl
 | v :: l, i, h => by
  have h0 : cs[i]? = some v := by simpa using h 0 (by simp)
  have e : cs.setIfInBounds i v = cs := by
   apply Array.ext_getElem?
   intro j
   rw [Array.getElem?_setIfInBounds]
   by_cases e : i = j
   ·subst e
    have := (Array.getElem?_eq_some_iff.1 h0).1
    rw [if_pos rfl, if_pos this, h0]
   ·rw [if_neg e]
  simp only [setArr]
  rw [e]
  exact setArr_same (fun j hj => by have := h (j + 1) (by simpa using hj); rw [show i + 1 + j = i + (j + 1) by omega]; simpa using this)
set_option maxRecDepth 100000 in
set_option maxHeartbeats 2000000 in
theorem pass_any (g : Nat) (e d : Int) {sta loc p li ai : Int} {VE VS VQ : Value} {t u : Int} {os : Bool} {ka klo khi kp kle kre cai cra : Int} {cse che : Bool} {cat csh : Int} (w : World) (h : Blk w g 106 #[.int .i64 sta, .int .i64 loc, .int .i64 p, .int .i64 li, .int .i64 ai, VE, VS, .int .i64 t, .int .i64 u, VQ, .bool os, .int .i64 ka, .int .i64 klo, .int .i64 khi, .int .i64 kp, .int .i64 kle, .int .i64 kre, .int .i64 cai, .int .i64 cra, .bool cse, .bool che, .int .i64 cat, .int .i64 csh]) (ht : IntKind.i64.wrap (t + e) = t + e) (hu : IntKind.i64.wrap (u + d) = u + d) :
  Calls Tryz.prog 93 #[.pointer (some ⟨g, 0, none⟩), .int .i64 e, .int .i64 d] w fun x w' => x = .returned (.tuple #[]) ∧ Blk w' g 106 #[.int .i64 sta, .int .i64 loc, .int .i64 p, .int .i64 li, .int .i64 ai, VE, VS, .int .i64 (t + e), .int .i64 (u + d), VQ, .bool os, .int .i64 ka, .int .i64 klo, .int .i64 khi, .int .i64 kp, .int .i64 kle, .int .i64 kre, .int .i64 cai, .int .i64 cra, .bool cse, .bool che, .int .i64 cat, .int .i64 csh] ∧ Past [g] w w' := by
 obtain ⟨cg, fg, lg, eg, kg⟩ := Blk.facts h
 go_enter Tryz.func93, Tryz.ntmps93
 go_wp2
 have h2 := (h.set_ 7 (.int .i64 (t + e))).set_ 8 (.int .i64 (u + d))
 simp only [lst, ls0, ls1] at h2
 refine bodyPost_end (results_none rfl _ _ _) rfl ?_
 exact ⟨rfl, h2, ((Past.refl _ _).setIn (by simp) _).setIn (by simp) _⟩
set_option maxRecDepth 100000 in
set_option maxHeartbeats 4000000 in
theorem take_any (g off : Nat) (T : TypeId) (cur : Array Value) (k : Kw) (u lo hi p : Int) (w : World) (h : Blk w g T cur) (hc : ∀ j, j < 7 → cur[off + j]? = (kwC k)[j]?) :
  Calls Tryz.prog 58 #[.pointer (some ⟨g, off, none⟩), .int .i64 u, .agg #[.int .i64 lo, .int .i64 hi], .int .i64 p] w fun x w' => x = .returned (.tuple #[]) ∧ Blk w' g T (setArr cur off (kwC (takeK k u lo hi p))) ∧ Past [g] w w' := by
 have HSM := hYd (show ∀ l, l = kwC k → setArr cur off l = cur from fun l e => e ▸ setArr_same (cs := cur) (l := kwC k) (i := off) (fun j hj => hc j hj))
 obtain ⟨b, ka, klo, khi, kp, kle, kre⟩ := k
 have c0 := (h.cell off).trans (hc 0 (by omega))
 have c1 := (h.cell (off + 1)).trans (hc 1 (by omega))
 have c2 : w.cell? ⟨g, off + 1 + 1, none⟩ = _ := (h.cell (off + 2)).trans (hc 2 (by omega))
 have c3 : w.cell? ⟨g, off + 1 + 2, none⟩ = _ := (h.cell (off + 3)).trans (hc 3 (by omega))
 have c4 : w.cell? ⟨g, off + 1 + 3, none⟩ = _ := (h.cell (off + 4)).trans (hc 4 (by omega))
 have c5 : w.cell? ⟨g, off + 1 + 4, none⟩ = _ := (h.cell (off + 5)).trans (hc 5 (by omega))
 have c6 : w.cell? ⟨g, off + 1 + 5, none⟩ = _ := (h.cell (off + 6)).trans (hc 6 (by omega))
 simp only [kwC, K6.cs, lg0, lg1] at c0 c1 c2 c3 c4 c5 c6
 have lg := h.lt
 have fg := h.frozen
 have HH := hYd h; clear h hc
 rcases b
 ·have rb := fun W => begK_V u lo hi p ▸ ibegin_any u lo hi p W
  have hk9 : takeK (false, ⟨ka, klo, khi, kp, kle, kre⟩) u lo hi p = (true, begK u lo hi p) := rfl
  rw [hk9]
  obtain ⟨nk, hnk⟩ : ∃ nk, begK u lo hi p = nk := ⟨_, rfl⟩
  rw [hnk] at rb ⊢
  obtain ⟨na, nlo, nhi, np, nle, nre⟩ := nk
  simp only [K6.cs] at rb
  have RB1 := hYd rb
  clear hk9 HSM hnk rb
  go_enter Tryz.func58, Tryz.ntmps58
  go_wp2_with fail
  refine (RB1.out _).mono ?_
  rintro e w1 ⟨rfl, hb1⟩
  have S1 : Below w.heap.size w w1 := kept_call hb1 bl0
  have Z1 := S1.size
  have h1 : Blk w1 g T cur := HH.out.below S1
  have l1 := h1.lt; have f1 := h1.frozen
  have q0 := cell_below S1 c0; have q1 := cell_below S1 c1; have q2 := cell_below S1 c2; have q3 := cell_below S1 c3; have q4 := cell_below S1 c4; have q5 := cell_below S1 c5; have q6 := cell_below S1 c6
  clear hb1 c0 c1 c2 c3 c4 c5 c6
  go_wp2
  have h2 := (setAll_blk [.int .i64 na, .int .i64 nlo, .int .i64 nhi, .int .i64 np, .int .i64 nle, .int .i64 nre] (off + 1) _ _ h1).set_ off (.bool true)
  rw [setArr_comm _ _ _ _ _ (by omega)] at h2
  refine bodyPost_end (results_none rfl _ _ _) rfl ?_
  refine ⟨rfl, ?_, ?_⟩
  ·simp only [kwC, K6.cs, setArr, setAll, Nat.add_assoc, Nat.reduceAdd] at h2 ⊢
   exact h2
  refine Past.trans (Past.below S1) ?_
  exact Past.setIn (by (repeat' (first | (with_reducible exact Past.refl _ _) | (with_reducible refine Past.setIn ?_ ?_ _) )) <;> simp) (by simp) _
 ·have rl := ilearn_any ka klo khi kp kle kre u lo hi
  have hk9 : takeK (true, ⟨ka, klo, khi, kp, kle, kre⟩) u lo hi p = (if (lrn ka klo khi kp kle kre u lo hi).e = 0 then (true, kOf (lrn ka klo khi kp kle kre u lo hi)) else (true, ⟨ka, klo, khi, kp, kle, kre⟩)) := rfl
  rw [hk9]
  obtain ⟨nk, hnk⟩ : ∃ nk, lrn ka klo khi kp kle kre u lo hi = nk := ⟨_, rfl⟩
  rw [hnk] at rl ⊢
  obtain ⟨na, nlo, nhi, np, nle, nre, nok, ne⟩ := nk
  simp only [Lrn.V, V6, kOf] at rl ⊢
  have RL := hYd rl
  clear hk9 hnk rl
  go_enter Tryz.func58, Tryz.ntmps58
  go_upto_region 4 with fail
  go_cut [8, 10] (fun v e9 wx => e9 = .int .i64 ne ∧ (∃ gn, w.heap.size < gn ∧ v = .pointer (some ⟨gn, 0, none⟩) ∧ Blk wx gn 43 #[.int .i64 na, .int .i64 nlo, .int .i64 nhi, .int .i64 np, .int .i64 nle, .int .i64 nre]) ∧ Below w.heap.size w wx)
  case first =>
   go_wp2_with fail
   refine' wp_region_calmD (by kernel_rfl) (fun D u9 w' => Below w.heap.size w w' ∧ Blk w' w.heap.size 29 #[.int .i64 lo, .int .i64 hi] ∧ NewD (w.heap.size + 1) 43 #[.int .i64 0, .int .i64 0, .int .i64 0, .int .i64 0, .int .i64 0, .int .i64 0] #[.int .i64 na, .int .i64 nlo, .int .i64 nhi, .int .i64 np, .int .i64 nle, .int .i64 nre] (D 11) (D 12) (u9 11) w' ∧ w.heap.size + 1 ≤ w'.heap.size) (fun _ _ => True) [(Is _), (Is _), (Is _), (Is _), (Is _), (Is _), (Is _), (Is _), (Is _), (Is _), (Is _), (fun _ _ _ => True), (fun _ _ _ => True), (Is _), (Is _)] [[], [0], [1], [2], [], [], [3, 4, 5], [6], [7], [7], [7], [], [11, 8], [9], [10]] rfl (by kernel_rfl) (fun u => by (simp only [calmPut, Act.put, lst, ls0, ls1, Nat.zero_add, Nat.reduceAdd]; rfl)) ?_ (kcc keep_is' (kcc keep_is' (kcc keep_is' (kcc keep_is' (kcc keep_is' (kcc keep_is' (kcc keep_is' (kcc keep_is' (kcc keep_is' (kcc keep_is' (kcc keep_is' (kcc keep_triv (kcc keep_triv (kcc keep_is' (kcc keep_is' (calmKeep_nil)))))))))))))))) ?_ ?_
   ·exact ⟨bl0, (by first | exact Blk.new _ _ _ | exact Blk.drew (Blk.new _ _ _)), NewD.start _, by simp⟩
   rotate_left 13
   ·skip
    refine dc2 (fun uu wq D hd hn hn2 hC hk K hK => ?_) ?_
    ·obtain ⟨hP, hS, hN, hZ⟩ := hC
     clear hk
     go_simp
     exact hK _ _ _ rfl ⟨hP, hS, hN, hZ⟩ trivial rfl
    refine dc2 (fun uu wq D hd hn hn2 hC hk K hK => ?_) ?_
    ·obtain ⟨hP, hS, hN, hZ⟩ := hC
     simp only [calmKnown, lg0, lg1, and_true, Is] at hk
     have h0 := hk; clear hk
     simp only [h0] at hK ⊢
     have H0 := hYd h0; clear h0
     go_simp
     exact hK _ _ _ rfl ⟨hP, hS, hN, hZ⟩ trivial rfl
    refine dc2 (fun uu wq D hd hn hn2 hC hk K hK => ?_) ?_
    ·obtain ⟨hP, hS, hN, hZ⟩ := hC
     simp only [calmKnown, lg0, lg1, and_true, Is] at hk
     have h1 := hk; clear hk
     simp only [h1] at hK ⊢
     have H1 := hYd h1; clear h1
     go_simp
     exact hK _ _ _ rfl ⟨hP, hS, hN, hZ⟩ trivial rfl
    refine dc2 (fun uu wq D hd hn hn2 hC hk K hK => ?_) ?_
    ·obtain ⟨hP, hS, hN, hZ⟩ := hC
     simp only [calmKnown, lg0, lg1, and_true, Is] at hk
     have h2 := hk; clear hk
     simp only [h2] at hK ⊢
     have H2 := hYd h2; clear h2
     have hS0 := hS.cell; have hSl := hS.lt
     have q0 := cell_below hP c0; have q1 := cell_below hP c1; have q2 := cell_below hP c2; have q3 := cell_below hP c3; have q4 := cell_below hP c4; have q5 := cell_below hP c5; have q6 := cell_below hP c6
     have lg2 : g < wq.heap.size := Nat.lt_of_lt_of_le lg hP.size
     go_simp
     exact hK _ _ _ rfl ⟨hP, hS, hN, hZ⟩ trivial rfl
    refine dc2 (fun uu wq D hd hn hn2 hC hk K hK => ?_) ?_
    ·obtain ⟨hP, hS, hN, hZ⟩ := hC
     clear hk
     go_simp
     exact hK _ _ _ rfl ⟨hP, hS, hN, hZ⟩ trivial rfl
    refine dc2 (fun uu wq D hd hn hn2 hC hk K hK => ?_) ?_
    ·obtain ⟨hP, hS, hN, hZ⟩ := hC
     clear hk
     have hS0 := hS.cell; have hSl := hS.lt
     have q0 := cell_below hP c0; have q1 := cell_below hP c1; have q2 := cell_below hP c2; have q3 := cell_below hP c3; have q4 := cell_below hP c4; have q5 := cell_below hP c5; have q6 := cell_below hP c6
     have lg2 : g < wq.heap.size := Nat.lt_of_lt_of_le lg hP.size
     go_simp
     exact hK _ _ _ rfl ⟨hP, hS, hN, hZ⟩ trivial rfl
    refine dc2 (fun uu wq D hd hn hn2 hC hk K hK => ?_) ?_
    ·obtain ⟨hP, hS, hN, hZ⟩ := hC
     simp only [calmKnown, lg0, lg1, and_true, Is] at hk
     obtain ⟨h3, h4, h5⟩ := hk
     simp only [h3, h4, h5] at hK ⊢
     have H3 := hYd h3; clear h3; have H4 := hYd h4; clear h4; have H5 := hYd h5; clear h5
     go_wp2_with fail
     first | (with_reducible refine (RL.out _).mono ?_)
     rintro e w2 ⟨rfl, hbl⟩
     exact hK _ _ _ rfl ⟨kept_call hbl hP, hS.below hbl, hN.below hbl, Nat.le_trans hZ hbl.size⟩ trivial rfl
    refine dc2 (fun uu wq D hd hn hn2 hC hk K hK => ?_) ?_
    ·obtain ⟨hP, hS, hN, hZ⟩ := hC
     simp only [calmKnown, lg0, lg1, and_true, Is] at hk
     have h6 := hk; clear hk
     simp only [h6] at hK ⊢
     have H6 := hYd h6; clear h6
     go_simp
     exact hK _ _ _ rfl ⟨hP, hS, hN, hZ⟩ trivial rfl
    refine dc2 (fun uu wq D hd hn hn2 hC hk K hK => ?_) ?_
    ·obtain ⟨hP, hS, hN, hZ⟩ := hC
     simp only [calmKnown, lg0, lg1, and_true, Is] at hk
     have h7 := hk; clear hk
     simp only [h7] at hK ⊢
     have H7 := hYd h7; clear h7
     go_simp
     exact hK _ _ _ rfl ⟨hP, hS, hN, hZ⟩ trivial rfl
    refine dc2 (fun uu wq D hd hn hn2 hC hk K hK => ?_) ?_
    ·obtain ⟨hP, hS, hN, hZ⟩ := hC
     simp only [calmKnown, lg0, lg1, and_true, Is] at hk
     have h7 := hk; clear hk
     simp only [h7] at hK ⊢
     have H7 := hYd h7; clear h7
     go_simp
     exact hK _ _ _ rfl ⟨hP, hS, hN, hZ⟩ trivial rfl
    refine dc2 (fun uu wq D hd hn hn2 hC hk K hK => ?_) ?_
    ·obtain ⟨hP, hS, hN, hZ⟩ := hC
     simp only [calmKnown, lg0, lg1, and_true, Is] at hk
     have h7 := hk; clear hk
     simp only [h7] at hK ⊢
     have H7 := hYd h7; clear h7
     go_simp
     exact hK _ _ _ rfl ⟨hP, hS, hN, hZ⟩ trivial rfl
    refine dc2 (fun uu wq D hd hn hn2 hC hk K hK => ?_) ?_
    ·obtain ⟨hP, hS, hN, hZ⟩ := hC
     clear hk
     have d12 := hn.out 12 (by kernel_rfl)
     go_simp
     exact hK _ _ _ rfl ⟨hP.alloc (by have := hP.size; omega) _, hS.alloc _, NewD.made hZ d12, by simp; omega⟩ trivial trivial
    refine dc2 (fun uu wq D hd hn hn2 hC hk K hK => ?_) ?_
    ·obtain ⟨hP, hS, hN, hZ⟩ := hC
     simp only [calmKnown, lg0, lg1, and_true, Is] at hk
     obtain ⟨-, h8⟩ := hk
     simp only [h8] at hK ⊢
     have H8 := hYd h8; clear h8
     have d11 : D 11 = true := hn2.out 11 (by kernel_rfl)
     have d12 : D 12 = false := hd
     obtain ⟨gn, h11, gb, gl, hB⟩ := hN.one d11 d12
     simp only [h11] at hK ⊢
     have hc := hB.cell; have hf := hB.frozen; have hl := hB.lt
     have hB2 := setAll_blk [.int .i64 na, .int .i64 nlo, .int .i64 nhi, .int .i64 np, .int .i64 nle, .int .i64 nre] 0 wq _ hB
     simp only [setArr, lst, ls0, ls1, Nat.zero_add, Nat.reduceAdd] at hB2
     have hS2 := setAll_far (show w.heap.size ≠ gn by omega) [.int .i64 na, .int .i64 nlo, .int .i64 nhi, .int .i64 np, .int .i64 nle, .int .i64 nre] 0 wq hS
     have hP2 := setAll_below' (show w.heap.size ≤ gn by omega) [.int .i64 na, .int .i64 nlo, .int .i64 nhi, .int .i64 np, .int .i64 nle, .int .i64 nre] 0 wq hP
     go_simp
     exact hK _ undef (setAll wq gn 0 [.int .i64 na, .int .i64 nlo, .int .i64 nhi, .int .i64 np, .int .i64 nle, .int .i64 nre]) rfl ⟨hP2, hS2, (show NewD _ _ _ _ (D 11) true (uu 11) _ from by rw [h11]; exact NewD.stored gb hB2), by rw [setAll_size]; exact hZ⟩ trivial trivial
    refine dc2 (fun uu wq D hd hn hn2 hC hk K hK => ?_) ?_
    ·obtain ⟨hP, hS, hN, hZ⟩ := hC
     simp only [calmKnown, lg0, lg1, and_true, Is] at hk
     have h9 := hk; clear hk
     simp only [h9] at hK ⊢
     have H9 := hYd h9; clear h9
     go_simp
     exact hK _ _ _ rfl ⟨hP, hS, hN, hZ⟩ trivial rfl
    refine dc2 (fun uu wq D hd hn hn2 hC hk K hK => ?_) ?_
    ·obtain ⟨hP, hS, hN, hZ⟩ := hC
     simp only [calmKnown, lg0, lg1, and_true, Is] at hk
     have h10 := hk; clear hk
     simp only [h10] at hK ⊢
     have H10 := hYd h10; clear h10
     go_simp
     exact hK _ _ _ rfl ⟨hP, hS, hN, hZ⟩ trivial rfl
    exact dSteps_nil
   ·intro uu wz D hD hC hF
    obtain ⟨hP, hS, hN, hZ⟩ := hC
    simp only [calmFacts, Is, and_true, true_and] at hF
    obtain ⟨f0, f1, f2, f3, f4, f5, f6, f7, f8, f9, f10, f13, f14⟩ := hF
    simp only [f0, f1, f2, f3, f4, f5, f6, f7, f8, f9, f10, f13, f14]
    obtain ⟨gn, e11, gb, gl, hB⟩ := hN.last (hD 11 (by decide)) (hD 12 (by decide))
    go_wp2_with fail
    go_meet
    exact ⟨rfl, ⟨gn, by omega, e11, hB⟩, hP⟩
  case rest =>
   obtain ⟨rfl, ⟨gn, hgn, rfl, hB⟩, KC⟩ := hcut
   have hcn := hB.cell; have hln := hB.lt; have hfn := hB.frozen
   have h1 : Blk wc g T cur := HH.out.below KC
   have l1 := h1.lt; have f1 := h1.frozen
   have q0 := cell_below KC c0; have q1 := cell_below KC c1; have q2 := cell_below KC c2; have q3 := cell_below KC c3; have q4 := cell_below KC c4; have q5 := cell_below KC c5; have q6 := cell_below KC c6
   clear c0 c1 c2 c3 c4 c5 c6
   by_cases hne : ne = 0
   ·subst hne
    go_wp2
    have h2 := setAll_blk [.int .i64 na, .int .i64 nlo, .int .i64 nhi, .int .i64 np, .int .i64 nle, .int .i64 nre] (off + 1) _ _ h1
    refine bodyPost_end (results_none rfl _ _ _) rfl ?_
    try rw [if_pos rfl]
    refine ⟨rfl, ?_, ?_⟩
    ·have e0 : cur.setIfInBounds off (.bool true) = cur := setArr_same (l := [.bool true]) (i := off) (fun j hj => by have hj0 : j = 0 := (by simpa using hj); subst hj0; exact (h1.cell off).symm.trans q0)
     simp only [kwC, K6.cs, setArr, setAll, Nat.add_assoc, Nat.reduceAdd, e0] at h2 ⊢
     exact h2
    ·refine Past.trans (Past.below KC) ?_
     (repeat' (first | (with_reducible exact Past.refl _ _) | (with_reducible refine Past.setIn ?_ ?_ _))) <;> simp
   ·have g1 : (ne == 0) = false := by simpa using hne
    go_wp2
    refine bodyPost_end (results_none rfl _ _ _) rfl ?_
    try rw [if_neg hne]
    rw [HSM.out _ rfl]
    exact ⟨rfl, h1, Past.below KC⟩
end Go.Proofs.YtlnboheahbfgfaaGreat
namespace Go.Proofs.YtlnboheahbfgfaaGreat
open Go.RowKit
set_option linter.unusedSimpArgs false
set_option linter.unusedVariables false

theorem setAll_pastX {X : List Nat} {W : World} {g : Nat} (hg : g ∈ X) : ∀ (l : List Value) (i : Nat) (w : World), Past X W w → Past X W (setAll w g i l)
 | [], _, _, h => h
 | _ :: l, i, w, h => setAll_pastX hg l (i + 1) _ (h.setIn hg _)
theorem Past.transF {X : List Nat} {g : Nat} {w a c : World} (h : Past X w a) (k : Past (g :: X) a c) (hg : w.heap.size ≤ g) : Past X w c := by
 refine ⟨Nat.le_trans h.1 k.1, k.2.1.trans h.2.1, k.2.2.1.trans h.2.2.1, k.2.2.2.1.trans h.2.2.2.1, fun q hq hn => ?_⟩
 have hm : q ∉ g :: X := fun hm => by
  rcases List.mem_cons.1 hm with e | e
  ·omega
  ·exact hn e
 exact (k.2.2.2.2 q (Nat.lt_of_lt_of_le hq h.1) hm).trans (h.2.2.2.2 q hq hn)
theorem Past.more {X Y : List Nat} {w w' : World} (hX : ∀ x ∈ X, x ∈ Y) (h : Past X w w') : Past Y w w' := ⟨h.1, h.2.1, h.2.2.1, h.2.2.2.1, fun k hk hn => h.2.2.2.2 k hk (fun hm => hn (hX k hm))⟩
set_option maxRecDepth 100000 in
set_option maxHeartbeats 8000000 in
theorem ask_any (g n c : Nat) (A : Option Addr) (es : List Int) (x : Stp) {sta loc p li ai : Int} {VS VQ : Value} {t u : Int} {os : Bool} {ka klo khi kp kle kre cai cra : Int} {cse che : Bool} {cat csh : Int} (w : World) (h : Blk w g 106 #[.int .i64 sta, .int .i64 loc, .int .i64 p, .int .i64 li, .int .i64 ai, .slice A n c, VS, .int .i64 t, .int .i64 u, VQ, .bool os, .int .i64 ka, .int .i64 klo, .int .i64 khi, .int .i64 kp, .int .i64 kle, .int .i64 kre, .int .i64 cai, .int .i64 cra, .bool cse, .bool che, .int .i64 cat, .int .i64 csh]) (hE : NsAt w A n es) (s0 : 0 ≤ x.src) (s1 : x.src < n) (y0 : 0 ≤ x.tr ∧ x.tr ≤ 1125899906842624) (y1 : 0 ≤ x.lo ∧ x.lo ≤ 1125899906842624) (y2 : 0 ≤ x.ou ∧ x.ou ≤ 1125899906842624) (y3 : 0 ≤ x.ol ∧ x.ol ≤ 1125899906842624) (y4 : 0 ≤ x.ho ∧ x.ho ≤ 1125899906842624) (y5 : 0 ≤ x.hl ∧ x.hl ≤ 1125899906842624) (y6 : 0 ≤ x.ba ∧ x.ba ≤ 1125899906842624) (y7 : 0 ≤ x.bl ∧ x.bl ≤ 1125899906842624) (z2 : -1125899906842624 ≤ x.w2 ∧ x.w2 ≤ 1125899906842624) (z3 : -1125899906842624 ≤ x.w3 ∧ x.w3 ≤ 1125899906842624) (ht : -576460752303423488 ≤ t ∧ t ≤ 576460752303423488) (hu : -576460752303423488 ≤ u ∧ u ≤ 576460752303423488) :
  Calls Tryz.prog 57 #[.pointer (some ⟨g, 0, none⟩), .agg #[.int .i64 x.src, .int .i64 x.tr, .int .i64 x.lo, .int .i64 x.ou, .int .i64 x.ol, .int .i64 x.ho, .int .i64 x.hl, .int .i64 x.ba, .int .i64 x.bl, .int .i64 x.w2, .int .i64 x.w3]] w fun e w' => e = .returned (.agg #[.int .i64 (u + x.lo), .int .i64 (t + x.tr + x.ou + x.w2), .int .i64 (t + x.tr + x.ou + x.ho + x.w3), .int .i64 (u + x.lo + x.ol + x.hl + x.bl), .int .i64 (es.getD x.src.toNat 0)]) ∧ Blk w' g 106 #[.int .i64 sta, .int .i64 loc, .int .i64 p, .int .i64 li, .int .i64 ai, .slice A n c, VS, .int .i64 (t + x.tr + x.ou + x.ho + x.ba), .int .i64 (u + x.lo + x.ol + x.hl + x.bl), VQ, .bool os, .int .i64 ka, .int .i64 klo, .int .i64 khi, .int .i64 kp, .int .i64 kle, .int .i64 kre, .int .i64 cai, .int .i64 cra, .bool cse, .bool che, .int .i64 cat, .int .i64 csh] ∧ Past [g] w w' := by
 have hn := hE.1
 obtain ⟨src, hsrc⟩ : ∃ src : Nat, x.src = src := ⟨x.src.toNat, by omega⟩
 obtain ⟨be, off, rfl, lbe, hce⟩ := hE.2.2 (by omega)
 have ce := hce src (by omega)
 have e9 : x.src.toNat = src := by omega
 rw [e9]
 obtain ⟨er, her⟩ : ∃ er, es.getD src 0 = er := ⟨_, rfl⟩
 rw [her] at ce ⊢
 clear her hce hE e9 hn
 obtain ⟨xs, tr, lo, ou, ol, ho, hl, ba, bl, w2', w3'⟩ := x
 dsimp only at *
 subst hsrc
 have gs : decide ((src : Int) < (n : Int)) = true := decide_eq_true s1
 have gsn : decide (src < n) = true := decide_eq_true (by omega)
 have bP := h; clear h
 have lgP := bP.lt
 have wr0 : IntKind.i64.wrap (u + lo) = u + lo := IntWalk.i64_in _ (by omega)
 have wr1 : IntKind.i64.wrap (t + tr) = t + tr := IntWalk.i64_in _ (by omega)
 have wr2 : IntKind.i64.wrap (t + tr + ou) = t + tr + ou := IntWalk.i64_in _ (by omega)
 have wr3 : IntKind.i64.wrap (u + lo + ol) = u + lo + ol := IntWalk.i64_in _ (by omega)
 have wr4 : IntKind.i64.wrap (t + tr + ou + w2') = t + tr + ou + w2' := IntWalk.i64_in _ (by omega)
 have wr5 : IntKind.i64.wrap (t + tr + ou + ho) = t + tr + ou + ho := IntWalk.i64_in _ (by omega)
 have wr6 : IntKind.i64.wrap (u + lo + ol + hl) = u + lo + ol + hl := IntWalk.i64_in _ (by omega)
 have wr7 : IntKind.i64.wrap (t + tr + ou + ho + w3') = t + tr + ou + ho + w3' := IntWalk.i64_in _ (by omega)
 have wr8 : IntKind.i64.wrap (t + tr + ou + ho + ba) = t + tr + ou + ho + ba := IntWalk.i64_in _ (by omega)
 have wr9 : IntKind.i64.wrap (u + lo + ol + hl + bl) = u + lo + ol + hl + bl := IntWalk.i64_in _ (by omega)
 have SRC := hYd (And.intro s0 s1)
 clear s0
 go_enter Tryz.func57, Tryz.ntmps57
 obtain ⟨cP, fP, lP, eP, kP⟩ := Blk.facts bP
 go_upto_region 1 with fail
 obtain ⟨wA, hwA⟩ : ∃ x : World, x = (w.alloc (.cells #[.int .i64 src, .int .i64 tr, .int .i64 lo, .int .i64 ou, .int .i64 ol, .int .i64 ho, .int .i64 hl, .int .i64 ba, .int .i64 bl, .int .i64 w2', .int .i64 w3'] 57)).alloc (.cells #[.int .i64 0, .int .i64 0, .int .i64 0, .int .i64 0, .int .i64 0] 92) := ⟨_, rfl⟩
 have hqA : Past [g] w wA := by rw [hwA]; exact ((Past.refl _ _).allocs _).allocs _
 have bX' : Blk wA w.heap.size 57 #[.int .i64 src, .int .i64 tr, .int .i64 lo, .int .i64 ou, .int .i64 ol, .int .i64 ho, .int .i64 hl, .int .i64 ba, .int .i64 bl, .int .i64 w2', .int .i64 w3'] := by rw [hwA]; exact (Blk.new _ _ _).alloc _
 have bR' : Blk wA (w.heap.size + 1) 92 #[.int .i64 0, .int .i64 0, .int .i64 0, .int .i64 0, .int .i64 0] := by rw [hwA]; exact Blk.new1 _ _ _ _
 have bP' : Blk wA g 106 #[.int .i64 sta, .int .i64 loc, .int .i64 p, .int .i64 li, .int .i64 ai, .slice (some ⟨be, off, none⟩) n c, VS, .int .i64 t, .int .i64 u, VQ, .bool os, .int .i64 ka, .int .i64 klo, .int .i64 khi, .int .i64 kp, .int .i64 kle, .int .i64 kre, .int .i64 cai, .int .i64 cra, .bool cse, .bool che, .int .i64 cat, .int .i64 csh] := by rw [hwA]; exact (bP.alloc _).alloc _
 have ce' : wA.cell? ⟨be, off + src, none⟩ = some (.int .i64 er) := by rw [hwA]; exact cell_below (((Below.refl _ _).alloc (Nat.le_refl _) _).alloc (by simp) _) ce
 have lbe' : be < wA.heap.size := by rw [hwA]; simp; omega
 have ZA : w.heap.size + 2 ≤ wA.heap.size := by rw [hwA]; simp
 rw [← hwA]
 clear hwA bP cP fP lP eP kP ce
 have bP := bP'; have bX := bX'; have bR := bR'; clear bP' bX' bR'
 obtain ⟨cP, fP, lP, eP, kP⟩ := Blk.facts bP
 obtain ⟨cX, fX, lX, eX, kX⟩ := Blk.facts bX
 obtain ⟨cR, fR, lR, eR, kR⟩ := Blk.facts bR
 have oX := lX; have oR := lR
 refine' wp_region_calmD (by kernel_rfl) (fun D u9 w' => Past [] wA w' ∧ Blk w' (g) 106 #[.int .i64 sta, .int .i64 loc, .int .i64 p, .int .i64 li, .int .i64 ai, .slice (some ⟨be, off, none⟩) n c, VS, .int .i64 t, .int .i64 u, VQ, .bool os, .int .i64 ka, .int .i64 klo, .int .i64 khi, .int .i64 kp, .int .i64 kle, .int .i64 kre, .int .i64 cai, .int .i64 cra, .bool cse, .bool che, .int .i64 cat, .int .i64 csh] ∧ Blk w' (w.heap.size) 57 #[.int .i64 src, .int .i64 tr, .int .i64 lo, .int .i64 ou, .int .i64 ol, .int .i64 ho, .int .i64 hl, .int .i64 ba, .int .i64 bl, .int .i64 w2', .int .i64 w3'] ∧ Blk w' (w.heap.size + 1) 92 #[.int .i64 0, .int .i64 0, .int .i64 0, .int .i64 0, .int .i64 0] ∧ NewD wA.heap.size 92 #[.int .i64 0, .int .i64 0, .int .i64 0, .int .i64 0, .int .i64 0] #[.int .i64 0, .int .i64 0, .int .i64 0, .int .i64 0, .int .i64 er] (D 10) (D 11) (u9 10) w' ∧ wA.heap.size ≤ w'.heap.size) (fun _ _ => True) [(Is _), (Is _), (Is _), (Is _), (Is _), (Is _), (Is _), (Is _), (Is _), (Is _), (fun _ _ _ => True), (fun _ _ _ => True)] [[], [0], [1], [2], [3], [], [5], [4, 6], [7], [8], [], [10, 9]] rfl (by kernel_rfl) (fun u => by (simp only [calmPut, Act.put, lst, ls0, ls1, Nat.zero_add, Nat.reduceAdd]; rfl)) ?_ (kcc keep_is' (kcc keep_is' (kcc keep_is' (kcc keep_is' (kcc keep_is' (kcc keep_is' (kcc keep_is' (kcc keep_is' (kcc keep_is' (kcc keep_is' (kcc keep_triv (kcc keep_triv (calmKeep_nil))))))))))))) ?_ ?_
 ·exact ⟨pa1, bn1, bn1, bn1, NewD.start _, (by first | exact Nat.le_refl _ | omega | (simp <;> omega))⟩
 rotate_left 10
 ·skip
  refine dc2 (fun uu wq D hd hn hn2 hC hk K hK => ?_) ?_
  ·obtain ⟨hP, mP, mX, mR, nS, hZ⟩ := hC
   clear hk
   go_simp
   exact hK _ _ _ rfl ⟨hP, mP, mX, mR, nS, hZ⟩ trivial rfl
  refine dc2 (fun uu wq D hd hn hn2 hC hk K hK => ?_) ?_
  ·obtain ⟨hP, mP, mX, mR, nS, hZ⟩ := hC
   simp only [calmKnown, lg0, lg1, and_true, Is] at hk
   have h0 := hk; clear hk
   simp only [h0] at hK ⊢
   have H0 := hYd h0; clear h0
   go_simp
   exact hK _ _ _ rfl ⟨hP, mP, mX, mR, nS, hZ⟩ trivial rfl
  refine dc2 (fun uu wq D hd hn hn2 hC hk K hK => ?_) ?_
  ·obtain ⟨hP, mP, mX, mR, nS, hZ⟩ := hC
   simp only [calmKnown, lg0, lg1, and_true, Is] at hk
   have h1 := hk; clear hk
   simp only [h1] at hK ⊢
   have H1 := hYd h1; clear h1
   go_simp
   exact hK _ _ _ rfl ⟨hP, mP, mX, mR, nS, hZ⟩ trivial rfl
  refine dc2 (fun uu wq D hd hn hn2 hC hk K hK => ?_) ?_
  ·obtain ⟨hP, mP, mX, mR, nS, hZ⟩ := hC
   simp only [calmKnown, lg0, lg1, and_true, Is] at hk
   have h2 := hk; clear hk
   simp only [h2] at hK ⊢
   have H2 := hYd h2; clear h2
   go_simp
   exact hK _ _ _ rfl ⟨hP, mP, mX, mR, nS, hZ⟩ trivial rfl
  refine dc2 (fun uu wq D hd hn hn2 hC hk K hK => ?_) ?_
  ·obtain ⟨hP, mP, mX, mR, nS, hZ⟩ := hC
   simp only [calmKnown, lg0, lg1, and_true, Is] at hk
   have h3 := hk; clear hk
   simp only [h3] at hK ⊢
   have H3 := hYd h3; clear h3
   have ce9 := hP.cell (by simp) ce'; have lbe9 := Nat.lt_of_lt_of_le lbe' hP.1
   have cP := mP.cell; have lP := mP.lt
   have cX := mX.cell; have lX := mX.lt
   have cR := mR.cell; have lR := mR.lt
   go_simp
   exact hK _ _ _ rfl ⟨hP, mP, mX, mR, nS, hZ⟩ trivial rfl
  refine dc2 (fun uu wq D hd hn hn2 hC hk K hK => ?_) ?_
  ·obtain ⟨hP, mP, mX, mR, nS, hZ⟩ := hC
   clear hk
   go_simp
   exact hK _ _ _ rfl ⟨hP, mP, mX, mR, nS, hZ⟩ trivial rfl
  refine dc2 (fun uu wq D hd hn hn2 hC hk K hK => ?_) ?_
  ·obtain ⟨hP, mP, mX, mR, nS, hZ⟩ := hC
   simp only [calmKnown, lg0, lg1, and_true, Is] at hk
   have h5 := hk; clear hk
   simp only [h5] at hK ⊢
   have H5 := hYd h5; clear h5
   have ce9 := hP.cell (by simp) ce'; have lbe9 := Nat.lt_of_lt_of_le lbe' hP.1
   have cP := mP.cell; have lP := mP.lt
   have cX := mX.cell; have lX := mX.lt
   have cR := mR.cell; have lR := mR.lt
   go_simp
   exact hK _ _ _ rfl ⟨hP, mP, mX, mR, nS, hZ⟩ trivial rfl
  refine dc2 (fun uu wq D hd hn hn2 hC hk K hK => ?_) ?_
  ·obtain ⟨hP, mP, mX, mR, nS, hZ⟩ := hC
   simp only [calmKnown, lg0, lg1, and_true, Is] at hk
   obtain ⟨h4, h6⟩ := hk
   simp only [h4, h6] at hK ⊢
   have H4 := hYd h4; clear h4; have H6 := hYd h6; clear h6
   go_simp
   exact hK _ _ _ rfl ⟨hP, mP, mX, mR, nS, hZ⟩ trivial rfl
  refine dc2 (fun uu wq D hd hn hn2 hC hk K hK => ?_) ?_
  ·obtain ⟨hP, mP, mX, mR, nS, hZ⟩ := hC
   simp only [calmKnown, lg0, lg1, and_true, Is] at hk
   have h7 := hk; clear hk
   simp only [h7] at hK ⊢
   have H7 := hYd h7; clear h7
   have ce9 := hP.cell (by simp) ce'; have lbe9 := Nat.lt_of_lt_of_le lbe' hP.1
   have cP := mP.cell; have lP := mP.lt
   have cX := mX.cell; have lX := mX.lt
   have cR := mR.cell; have lR := mR.lt
   go_simp
   exact hK _ _ _ rfl ⟨hP, mP, mX, mR, nS, hZ⟩ trivial rfl
  refine dc2 (fun uu wq D hd hn hn2 hC hk K hK => ?_) ?_
  ·obtain ⟨hP, mP, mX, mR, nS, hZ⟩ := hC
   simp only [calmKnown, lg0, lg1, and_true, Is] at hk
   have h8 := hk; clear hk
   simp only [h8] at hK ⊢
   have H8 := hYd h8; clear h8
   go_simp
   exact hK _ _ _ rfl ⟨hP, mP, mX, mR, nS, hZ⟩ trivial rfl
  refine dc2 (fun uu wq D hd hn hn2 hC hk K hK => ?_) ?_
  ·obtain ⟨hP, mP, mX, mR, nS, hZ⟩ := hC
   clear hk
   have d11 := hn.out 11 (by kernel_rfl)
   go_simp
   exact hK _ _ _ rfl ⟨hP.allocs _, mP.alloc _, mX.alloc _, mR.alloc _, NewD.made hZ d11, Nat.le_trans hZ (by simp)⟩ trivial trivial
  refine dc2 (fun uu wq D hd hn hn2 hC hk K hK => ?_) ?_
  ·obtain ⟨hP, mP, mX, mR, nS, hZ⟩ := hC
   simp only [calmKnown, lg0, lg1, and_true, Is] at hk
   obtain ⟨-, h9⟩ := hk
   simp only [h9] at hK ⊢
   have H9 := hYd h9; clear h9
   have da : D 10 = true := hn2.out 10 (by kernel_rfl)
   obtain ⟨gn, hgn, gb, gl, hB⟩ := nS.one da hd
   simp only [hgn] at hK ⊢
   have hc9 := hB.cell; have hf9 := hB.frozen
   have hB2 := setAll_blk [.int .i64 0, .int .i64 0, .int .i64 0, .int .i64 0, .int .i64 er] 0 wq _ hB
   simp only [setArr, lst, ls0, ls1, Nat.zero_add, Nat.reduceAdd] at hB2
   go_simp
   exact hK _ undef (setAll wq gn 0 [.int .i64 0, .int .i64 0, .int .i64 0, .int .i64 0, .int .i64 er]) rfl ⟨(setAll_past gb [.int .i64 0, .int .i64 0, .int .i64 0, .int .i64 0, .int .i64 er] 0 wq hP), setAll_far (show g ≠ gn by first | omega | (simp <;> omega)) [.int .i64 0, .int .i64 0, .int .i64 0, .int .i64 0, .int .i64 er] 0 wq mP, setAll_far (show w.heap.size ≠ gn by first | omega | (simp <;> omega)) [.int .i64 0, .int .i64 0, .int .i64 0, .int .i64 0, .int .i64 er] 0 wq mX, setAll_far (show w.heap.size + 1 ≠ gn by first | omega | (simp <;> omega)) [.int .i64 0, .int .i64 0, .int .i64 0, .int .i64 0, .int .i64 er] 0 wq mR, (show NewD _ _ _ _ (D 10) true (uu 10) _ from by rw [hgn]; exact NewD.stored gb hB2), (by rw [setAll_size]; exact hZ)⟩ trivial trivial
  exact dSteps_nil
 ·intro uu v1 D hD hC hF
  obtain ⟨hP, mP, mX, mR, nS, hZ⟩ := hC
  simp only [calmFacts, Is, and_true, true_and] at hF
  obtain ⟨f0, f1, f2, f3, f4, f5, f6, f7, f8, f9⟩ := hF
  simp only [f0, f1, f2, f3, f4, f5, f6, f7, f8, f9]
  obtain ⟨gS, e9S, gbS, glS, bS'⟩ := nS.last (hD 10 (by decide)) (hD 11 (by decide))
  simp only [e9S]
  clear e9S
  have hq : Past [g] _ _ := Past.more (by simp) hP; clear hP
  have Kv1 : Past [g] w v1 := Past.trans hqA hq
  have Zv1 := hZ; clear hZ
  clear hq hqA
  clear bP cP fP lP eP kP; have bP := mP
  clear bX cX fX lX eX kX; have bX := mX
  clear bR cR fR lR eR kR; have bR := mR
  clear mP mX mR nS hD
  have bS := bS'; clear bS'
  obtain ⟨cP, fP, lP, eP, kP⟩ := Blk.facts bP
  obtain ⟨cX, fX, lX, eX, kX⟩ := Blk.facts bX
  obtain ⟨cR, fR, lR, eR, kR⟩ := Blk.facts bR
  obtain ⟨cS, fS, lS, eS, kS⟩ := Blk.facts bS
  have oS := lS
  clear ce' lbe'
  go_wp2_with fail
  refine (pass_any g tr lo _ bn1 wr1 wr0).mono ?_
  rintro e v2 ⟨rfl, bP9, hq0⟩
  have hq := hq0
  have Kv2 : Past [g] w v2 := Past.trans pa1 hq
  have Zv2 : v1.heap.size ≤ v2.heap.size := Nat.le_trans (by first | exact Nat.le_refl _ | omega | (simp <;> omega)) hq.1
  have bP' := bP9
  have bX' : Blk v2 (w.heap.size) 57 #[.int .i64 src, .int .i64 tr, .int .i64 lo, .int .i64 ou, .int .i64 ol, .int .i64 ho, .int .i64 hl, .int .i64 ba, .int .i64 bl, .int .i64 w2', .int .i64 w3'] := hq0.blk (bn1) (by simp <;> omega)
  have bR' : Blk v2 (w.heap.size + 1) 92 #[.int .i64 0, .int .i64 0, .int .i64 0, .int .i64 0, .int .i64 0] := hq0.blk (bn1) (by simp <;> omega)
  have bS' : Blk v2 (gS) 92 #[.int .i64 0, .int .i64 0, .int .i64 0, .int .i64 0, .int .i64 er] := hq0.blk (bn1) (by simp <;> omega)
  clear hq Kv1
  clear bP cP fP lP eP kP; have bP := bP'; clear bP'
  clear bX cX fX lX eX kX; have bX := bX'; clear bX'
  clear bR cR fR lR eR kR; have bR := bR'; clear bR'
  clear bS cS fS lS eS kS; have bS := bS'; clear bS'
  obtain ⟨cP, fP, lP, eP, kP⟩ := Blk.facts bP
  obtain ⟨cX, fX, lX, eX, kX⟩ := Blk.facts bX
  obtain ⟨cR, fR, lR, eR, kR⟩ := Blk.facts bR
  obtain ⟨cS, fS, lS, eS, kS⟩ := Blk.facts bS
  clear bP9 hq0
  go_wp2_with fail
  refine (pass_any g ou ol _ bn1 wr2 wr3).mono ?_
  rintro e v3 ⟨rfl, bP9, hq0⟩
  have hq := hq0
  have Kv3 : Past [g] w v3 := Past.trans pa1 hq
  have Zv3 : v2.heap.size ≤ v3.heap.size := Nat.le_trans (by first | exact Nat.le_refl _ | omega | (simp <;> omega)) hq.1
  have bP' := bP9
  have bX' : Blk v3 (w.heap.size) 57 #[.int .i64 src, .int .i64 tr, .int .i64 lo, .int .i64 ou, .int .i64 ol, .int .i64 ho, .int .i64 hl, .int .i64 ba, .int .i64 bl, .int .i64 w2', .int .i64 w3'] := hq0.blk (bn1) (by simp <;> omega)
  have bR' : Blk v3 (w.heap.size + 1) 92 #[.int .i64 0, .int .i64 0, .int .i64 0, .int .i64 0, .int .i64 0] := hq0.blk (bn1) (by simp <;> omega)
  have bS' : Blk v3 (gS) 92 #[.int .i64 (u + lo), .int .i64 0, .int .i64 0, .int .i64 0, .int .i64 er] := hq0.blk (bn1) (by simp <;> omega)
  clear hq Kv2
  clear bP cP fP lP eP kP; have bP := bP'; clear bP'
  clear bX cX fX lX eX kX; have bX := bX'; clear bX'
  clear bR cR fR lR eR kR; have bR := bR'; clear bR'
  clear bS cS fS lS eS kS; have bS := bS'; clear bS'
  obtain ⟨cP, fP, lP, eP, kP⟩ := Blk.facts bP
  obtain ⟨cX, fX, lX, eX, kX⟩ := Blk.facts bX
  obtain ⟨cR, fR, lR, eR, kR⟩ := Blk.facts bR
  obtain ⟨cS, fS, lS, eS, kS⟩ := Blk.facts bS
  clear bP9 hq0
  go_upto_region 5 with fail
  refine' wp_region_calmD (by kernel_rfl) (fun D u9 w' => Past (gS :: [g]) v3 w' ∧ Blk w' (g) 106 #[.int .i64 sta, .int .i64 loc, .int .i64 p, .int .i64 li, .int .i64 ai, .slice (some ⟨be, off, none⟩) n c, VS, .int .i64 (t + tr + ou), .int .i64 (u + lo + ol), VQ, .bool os, .int .i64 ka, .int .i64 klo, .int .i64 khi, .int .i64 kp, .int .i64 kle, .int .i64 kre, .int .i64 cai, .int .i64 cra, .bool cse, .bool che, .int .i64 cat, .int .i64 csh] ∧ Blk w' (w.heap.size) 57 #[.int .i64 src, .int .i64 tr, .int .i64 lo, .int .i64 ou, .int .i64 ol, .int .i64 ho, .int .i64 hl, .int .i64 ba, .int .i64 bl, .int .i64 w2', .int .i64 w3'] ∧ Blk w' (w.heap.size + 1) 92 #[.int .i64 0, .int .i64 0, .int .i64 0, .int .i64 0, .int .i64 0] ∧ (D 8 = false → Blk w' (gS) 92 #[.int .i64 (u + lo), .int .i64 0, .int .i64 0, .int .i64 0, .int .i64 er]) ∧ (D 8 = true → Blk w' (gS) 92 #[.int .i64 (u + lo), .int .i64 (t + tr + ou + w2'), .int .i64 0, .int .i64 0, .int .i64 er]) ∧ v3.heap.size ≤ w'.heap.size) (fun _ _ => True) [(Is _), (Is _), (Is _), (Is _), (Is _), (Is _), (Is _), (Is _), (fun _ _ _ => True)] [[], [0], [1], [2], [], [4], [3, 5], [], [7, 6]] rfl (by kernel_rfl) (fun u => by (simp only [calmPut, Act.put, lst, ls0, ls1, Nat.zero_add, Nat.reduceAdd]; rfl)) ?_ (kcc keep_is' (kcc keep_is' (kcc keep_is' (kcc keep_is' (kcc keep_is' (kcc keep_is' (kcc keep_is' (kcc keep_is' (kcc keep_triv (calmKeep_nil)))))))))) ?_ ?_
  ·exact ⟨pa1, bn1, bn1, bn1, (fun _ => bn1), (fun h => by cases h), (by first | exact Nat.le_refl _ | omega | (simp <;> omega))⟩
  rotate_left 8
  ·skip
   refine dc2 (fun uu wq D hd hn hn2 hC hk K hK => ?_) ?_
   ·obtain ⟨hP, mP, mX, mR, mS, yS, hZ⟩ := hC
    clear hk
    go_simp
    exact hK _ _ _ rfl ⟨hP, mP, mX, mR, mS, yS, hZ⟩ trivial rfl
   refine dc2 (fun uu wq D hd hn hn2 hC hk K hK => ?_) ?_
   ·obtain ⟨hP, mP, mX, mR, mS, yS, hZ⟩ := hC
    simp only [calmKnown, lg0, lg1, and_true, Is] at hk
    have h0 := hk; clear hk
    simp only [h0] at hK ⊢
    have H0 := hYd h0; clear h0
    go_simp
    exact hK _ _ _ rfl ⟨hP, mP, mX, mR, mS, yS, hZ⟩ trivial rfl
   refine dc2 (fun uu wq D hd hn hn2 hC hk K hK => ?_) ?_
   ·obtain ⟨hP, mP, mX, mR, mS, yS, hZ⟩ := hC
    simp only [calmKnown, lg0, lg1, and_true, Is] at hk
    have h1 := hk; clear hk
    simp only [h1] at hK ⊢
    have H1 := hYd h1; clear h1
    go_simp
    exact hK _ _ _ rfl ⟨hP, mP, mX, mR, mS, yS, hZ⟩ trivial rfl
   refine dc2 (fun uu wq D hd hn hn2 hC hk K hK => ?_) ?_
   ·obtain ⟨hP, mP, mX, mR, mS, yS, hZ⟩ := hC
    simp only [calmKnown, lg0, lg1, and_true, Is] at hk
    have h2 := hk; clear hk
    simp only [h2] at hK ⊢
    have H2 := hYd h2; clear h2
    have cP := mP.cell; have lP := mP.lt
    have cX := mX.cell; have lX := mX.lt
    have cR := mR.cell; have lR := mR.lt
    have hB := mS (hn.out 8 (by kernel_rfl)); have cS := hB.cell; have lS := hB.lt
    go_simp
    exact hK _ _ _ rfl ⟨hP, mP, mX, mR, mS, yS, hZ⟩ trivial rfl
   refine dc2 (fun uu wq D hd hn hn2 hC hk K hK => ?_) ?_
   ·obtain ⟨hP, mP, mX, mR, mS, yS, hZ⟩ := hC
    clear hk
    go_simp
    exact hK _ _ _ rfl ⟨hP, mP, mX, mR, mS, yS, hZ⟩ trivial rfl
   refine dc2 (fun uu wq D hd hn hn2 hC hk K hK => ?_) ?_
   ·obtain ⟨hP, mP, mX, mR, mS, yS, hZ⟩ := hC
    simp only [calmKnown, lg0, lg1, and_true, Is] at hk
    have h4 := hk; clear hk
    simp only [h4] at hK ⊢
    have H4 := hYd h4; clear h4
    have cP := mP.cell; have lP := mP.lt
    have cX := mX.cell; have lX := mX.lt
    have cR := mR.cell; have lR := mR.lt
    have hB := mS (hn.out 8 (by kernel_rfl)); have cS := hB.cell; have lS := hB.lt
    go_simp
    exact hK _ _ _ rfl ⟨hP, mP, mX, mR, mS, yS, hZ⟩ trivial rfl
   refine dc2 (fun uu wq D hd hn hn2 hC hk K hK => ?_) ?_
   ·obtain ⟨hP, mP, mX, mR, mS, yS, hZ⟩ := hC
    simp only [calmKnown, lg0, lg1, and_true, Is] at hk
    obtain ⟨h3, h5⟩ := hk
    simp only [h3, h5] at hK ⊢
    have H3 := hYd h3; clear h3; have H5 := hYd h5; clear h5
    go_simp
    exact hK _ _ _ rfl ⟨hP, mP, mX, mR, mS, yS, hZ⟩ trivial rfl
   refine dc2 (fun uu wq D hd hn hn2 hC hk K hK => ?_) ?_
   ·obtain ⟨hP, mP, mX, mR, mS, yS, hZ⟩ := hC
    clear hk
    go_simp
    exact hK _ _ _ rfl ⟨hP, mP, mX, mR, mS, yS, hZ⟩ trivial rfl
   refine dc2 (fun uu wq D hd hn hn2 hC hk K hK => ?_) ?_
   ·obtain ⟨hP, mP, mX, mR, mS, yS, hZ⟩ := hC
    simp only [calmKnown, lg0, lg1, and_true, Is] at hk
    obtain ⟨h7, h6⟩ := hk
    simp only [h7, h6] at hK ⊢
    have H7 := hYd h7; clear h7; have H6 := hYd h6; clear h6
    have hB := mS hd
    have hc9 := hB.cell; have hf9 := hB.frozen; have hl9 := hB.lt
    have hB2 := setAll_blk [.int .i64 (t + tr + ou + w2')] 1 wq _ hB
    simp only [setArr, lst, ls0, ls1, Nat.zero_add, Nat.reduceAdd] at hB2
    go_simp
    exact hK _ undef (setAll wq (gS) 1 [.int .i64 (t + tr + ou + w2')]) rfl ⟨(setAll_pastX (by simp) [.int .i64 (t + tr + ou + w2')] 1 wq hP), setAll_far (show g ≠ gS by first | omega | (simp <;> omega)) [.int .i64 (t + tr + ou + w2')] 1 wq mP, setAll_far (show w.heap.size ≠ gS by first | omega | (simp <;> omega)) [.int .i64 (t + tr + ou + w2')] 1 wq mX, setAll_far (show w.heap.size + 1 ≠ gS by first | omega | (simp <;> omega)) [.int .i64 (t + tr + ou + w2')] 1 wq mR, (fun h => by cases h), (fun _ => hB2), (by rw [setAll_size]; exact hZ)⟩ trivial trivial
   exact dSteps_nil
  ·intro uu v4 D hD hC hF
   obtain ⟨hP, mP, mX, mR, mS, yS, hZ⟩ := hC
   simp only [calmFacts, Is, and_true, true_and] at hF
   obtain ⟨f0, f1, f2, f3, f4, f5, f6, f7⟩ := hF
   simp only [f0, f1, f2, f3, f4, f5, f6, f7]
   have bbS := yS (hD 8 (by decide))
   have hq := hP; clear hP
   have Kv4 : Past [g] w v4 := Past.transF Kv3 hq (by first | omega | (simp; omega))
   have Zv4 := hZ; clear hZ
   clear hq Kv3
   clear bP cP fP lP eP kP; have bP := mP
   clear bX cX fX lX eX kX; have bX := mX
   clear bR cR fR lR eR kR; have bR := mR
   clear bS cS fS lS eS kS; have bS := bbS
   clear mP mX mR mS yS bbS hD
   obtain ⟨cP, fP, lP, eP, kP⟩ := Blk.facts bP
   obtain ⟨cX, fX, lX, eX, kX⟩ := Blk.facts bX
   obtain ⟨cR, fR, lR, eR, kR⟩ := Blk.facts bR
   obtain ⟨cS, fS, lS, eS, kS⟩ := Blk.facts bS
   go_wp2_with fail
   refine (pass_any g ho hl _ bn1 wr5 wr6).mono ?_
   rintro e v5 ⟨rfl, bP9, hq0⟩
   have hq := hq0
   have Kv5 : Past [g] w v5 := Past.trans pa1 hq
   have Zv5 : v4.heap.size ≤ v5.heap.size := Nat.le_trans (by first | exact Nat.le_refl _ | omega | (simp <;> omega)) hq.1
   have bP' := bP9
   have bX' : Blk v5 (w.heap.size) 57 #[.int .i64 src, .int .i64 tr, .int .i64 lo, .int .i64 ou, .int .i64 ol, .int .i64 ho, .int .i64 hl, .int .i64 ba, .int .i64 bl, .int .i64 w2', .int .i64 w3'] := hq0.blk (bn1) (by simp <;> omega)
   have bR' : Blk v5 (w.heap.size + 1) 92 #[.int .i64 0, .int .i64 0, .int .i64 0, .int .i64 0, .int .i64 0] := hq0.blk (bn1) (by simp <;> omega)
   have bS' : Blk v5 (gS) 92 #[.int .i64 (u + lo), .int .i64 (t + tr + ou + w2'), .int .i64 0, .int .i64 0, .int .i64 er] := hq0.blk (bn1) (by simp <;> omega)
   clear hq Kv4
   clear bP cP fP lP eP kP; have bP := bP'; clear bP'
   clear bX cX fX lX eX kX; have bX := bX'; clear bX'
   clear bR cR fR lR eR kR; have bR := bR'; clear bR'
   clear bS cS fS lS eS kS; have bS := bS'; clear bS'
   obtain ⟨cP, fP, lP, eP, kP⟩ := Blk.facts bP
   obtain ⟨cX, fX, lX, eX, kX⟩ := Blk.facts bX
   obtain ⟨cR, fR, lR, eR, kR⟩ := Blk.facts bR
   obtain ⟨cS, fS, lS, eS, kS⟩ := Blk.facts bS
   clear bP9 hq0
   go_upto_region 7 with fail
   refine' wp_region_calmD (by kernel_rfl) (fun D u9 w' => Past (gS :: [g]) v5 w' ∧ Blk w' (g) 106 #[.int .i64 sta, .int .i64 loc, .int .i64 p, .int .i64 li, .int .i64 ai, .slice (some ⟨be, off, none⟩) n c, VS, .int .i64 (t + tr + ou + ho), .int .i64 (u + lo + ol + hl), VQ, .bool os, .int .i64 ka, .int .i64 klo, .int .i64 khi, .int .i64 kp, .int .i64 kle, .int .i64 kre, .int .i64 cai, .int .i64 cra, .bool cse, .bool che, .int .i64 cat, .int .i64 csh] ∧ Blk w' (w.heap.size) 57 #[.int .i64 src, .int .i64 tr, .int .i64 lo, .int .i64 ou, .int .i64 ol, .int .i64 ho, .int .i64 hl, .int .i64 ba, .int .i64 bl, .int .i64 w2', .int .i64 w3'] ∧ Blk w' (w.heap.size + 1) 92 #[.int .i64 0, .int .i64 0, .int .i64 0, .int .i64 0, .int .i64 0] ∧ (D 8 = false → Blk w' (gS) 92 #[.int .i64 (u + lo), .int .i64 (t + tr + ou + w2'), .int .i64 0, .int .i64 0, .int .i64 er]) ∧ (D 8 = true → Blk w' (gS) 92 #[.int .i64 (u + lo), .int .i64 (t + tr + ou + w2'), .int .i64 (t + tr + ou + ho + w3'), .int .i64 0, .int .i64 er]) ∧ v5.heap.size ≤ w'.heap.size) (fun _ _ => True) [(Is _), (Is _), (Is _), (Is _), (Is _), (Is _), (Is _), (Is _), (fun _ _ _ => True)] [[], [0], [1], [2], [], [4], [3, 5], [], [7, 6]] rfl (by kernel_rfl) (fun u => by (simp only [calmPut, Act.put, lst, ls0, ls1, Nat.zero_add, Nat.reduceAdd]; rfl)) ?_ (kcc keep_is' (kcc keep_is' (kcc keep_is' (kcc keep_is' (kcc keep_is' (kcc keep_is' (kcc keep_is' (kcc keep_is' (kcc keep_triv (calmKeep_nil)))))))))) ?_ ?_
   ·exact ⟨pa1, bn1, bn1, bn1, (fun _ => bn1), (fun h => by cases h), (by first | exact Nat.le_refl _ | omega | (simp <;> omega))⟩
   rotate_left 8
   ·skip
    refine dc2 (fun uu wq D hd hn hn2 hC hk K hK => ?_) ?_
    ·obtain ⟨hP, mP, mX, mR, mS, yS, hZ⟩ := hC
     clear hk
     go_simp
     exact hK _ _ _ rfl ⟨hP, mP, mX, mR, mS, yS, hZ⟩ trivial rfl
    refine dc2 (fun uu wq D hd hn hn2 hC hk K hK => ?_) ?_
    ·obtain ⟨hP, mP, mX, mR, mS, yS, hZ⟩ := hC
     simp only [calmKnown, lg0, lg1, and_true, Is] at hk
     have h0 := hk; clear hk
     simp only [h0] at hK ⊢
     have H0 := hYd h0; clear h0
     go_simp
     exact hK _ _ _ rfl ⟨hP, mP, mX, mR, mS, yS, hZ⟩ trivial rfl
    refine dc2 (fun uu wq D hd hn hn2 hC hk K hK => ?_) ?_
    ·obtain ⟨hP, mP, mX, mR, mS, yS, hZ⟩ := hC
     simp only [calmKnown, lg0, lg1, and_true, Is] at hk
     have h1 := hk; clear hk
     simp only [h1] at hK ⊢
     have H1 := hYd h1; clear h1
     go_simp
     exact hK _ _ _ rfl ⟨hP, mP, mX, mR, mS, yS, hZ⟩ trivial rfl
    refine dc2 (fun uu wq D hd hn hn2 hC hk K hK => ?_) ?_
    ·obtain ⟨hP, mP, mX, mR, mS, yS, hZ⟩ := hC
     simp only [calmKnown, lg0, lg1, and_true, Is] at hk
     have h2 := hk; clear hk
     simp only [h2] at hK ⊢
     have H2 := hYd h2; clear h2
     have cP := mP.cell; have lP := mP.lt
     have cX := mX.cell; have lX := mX.lt
     have cR := mR.cell; have lR := mR.lt
     have hB := mS (hn.out 8 (by kernel_rfl)); have cS := hB.cell; have lS := hB.lt
     go_simp
     exact hK _ _ _ rfl ⟨hP, mP, mX, mR, mS, yS, hZ⟩ trivial rfl
    refine dc2 (fun uu wq D hd hn hn2 hC hk K hK => ?_) ?_
    ·obtain ⟨hP, mP, mX, mR, mS, yS, hZ⟩ := hC
     clear hk
     go_simp
     exact hK _ _ _ rfl ⟨hP, mP, mX, mR, mS, yS, hZ⟩ trivial rfl
    refine dc2 (fun uu wq D hd hn hn2 hC hk K hK => ?_) ?_
    ·obtain ⟨hP, mP, mX, mR, mS, yS, hZ⟩ := hC
     simp only [calmKnown, lg0, lg1, and_true, Is] at hk
     have h4 := hk; clear hk
     simp only [h4] at hK ⊢
     have H4 := hYd h4; clear h4
     have cP := mP.cell; have lP := mP.lt
     have cX := mX.cell; have lX := mX.lt
     have cR := mR.cell; have lR := mR.lt
     have hB := mS (hn.out 8 (by kernel_rfl)); have cS := hB.cell; have lS := hB.lt
     go_simp
     exact hK _ _ _ rfl ⟨hP, mP, mX, mR, mS, yS, hZ⟩ trivial rfl
    refine dc2 (fun uu wq D hd hn hn2 hC hk K hK => ?_) ?_
    ·obtain ⟨hP, mP, mX, mR, mS, yS, hZ⟩ := hC
     simp only [calmKnown, lg0, lg1, and_true, Is] at hk
     obtain ⟨h3, h5⟩ := hk
     simp only [h3, h5] at hK ⊢
     have H3 := hYd h3; clear h3; have H5 := hYd h5; clear h5
     go_simp
     exact hK _ _ _ rfl ⟨hP, mP, mX, mR, mS, yS, hZ⟩ trivial rfl
    refine dc2 (fun uu wq D hd hn hn2 hC hk K hK => ?_) ?_
    ·obtain ⟨hP, mP, mX, mR, mS, yS, hZ⟩ := hC
     clear hk
     go_simp
     exact hK _ _ _ rfl ⟨hP, mP, mX, mR, mS, yS, hZ⟩ trivial rfl
    refine dc2 (fun uu wq D hd hn hn2 hC hk K hK => ?_) ?_
    ·obtain ⟨hP, mP, mX, mR, mS, yS, hZ⟩ := hC
     simp only [calmKnown, lg0, lg1, and_true, Is] at hk
     obtain ⟨h7, h6⟩ := hk
     simp only [h7, h6] at hK ⊢
     have H7 := hYd h7; clear h7; have H6 := hYd h6; clear h6
     have hB := mS hd
     have hc9 := hB.cell; have hf9 := hB.frozen; have hl9 := hB.lt
     have hB2 := setAll_blk [.int .i64 (t + tr + ou + ho + w3')] 2 wq _ hB
     simp only [setArr, lst, ls0, ls1, Nat.zero_add, Nat.reduceAdd] at hB2
     go_simp
     exact hK _ undef (setAll wq (gS) 2 [.int .i64 (t + tr + ou + ho + w3')]) rfl ⟨(setAll_pastX (by simp) [.int .i64 (t + tr + ou + ho + w3')] 2 wq hP), setAll_far (show g ≠ gS by first | omega | (simp <;> omega)) [.int .i64 (t + tr + ou + ho + w3')] 2 wq mP, setAll_far (show w.heap.size ≠ gS by first | omega | (simp <;> omega)) [.int .i64 (t + tr + ou + ho + w3')] 2 wq mX, setAll_far (show w.heap.size + 1 ≠ gS by first | omega | (simp <;> omega)) [.int .i64 (t + tr + ou + ho + w3')] 2 wq mR, (fun h => by cases h), (fun _ => hB2), (by rw [setAll_size]; exact hZ)⟩ trivial trivial
    exact dSteps_nil
   ·intro uu v6 D hD hC hF
    obtain ⟨hP, mP, mX, mR, mS, yS, hZ⟩ := hC
    simp only [calmFacts, Is, and_true, true_and] at hF
    obtain ⟨f0, f1, f2, f3, f4, f5, f6, f7⟩ := hF
    simp only [f0, f1, f2, f3, f4, f5, f6, f7]
    have bbS := yS (hD 8 (by decide))
    have hq := hP; clear hP
    have Kv6 : Past [g] w v6 := Past.transF Kv5 hq (by first | omega | (simp; omega))
    have Zv6 := hZ; clear hZ
    clear hq Kv5
    clear bP cP fP lP eP kP; have bP := mP
    clear bX cX fX lX eX kX; have bX := mX
    clear bR cR fR lR eR kR; have bR := mR
    clear bS cS fS lS eS kS; have bS := bbS
    clear mP mX mR mS yS bbS hD
    obtain ⟨cP, fP, lP, eP, kP⟩ := Blk.facts bP
    obtain ⟨cX, fX, lX, eX, kX⟩ := Blk.facts bX
    obtain ⟨cR, fR, lR, eR, kR⟩ := Blk.facts bR
    obtain ⟨cS, fS, lS, eS, kS⟩ := Blk.facts bS
    go_wp2_with fail
    refine (pass_any g ba bl _ bn1 wr8 wr9).mono ?_
    rintro e v7 ⟨rfl, bP9, hq0⟩
    have hq := hq0
    have Kv7 : Past [g] w v7 := Past.trans pa1 hq
    have Zv7 : v6.heap.size ≤ v7.heap.size := Nat.le_trans (by first | exact Nat.le_refl _ | omega | (simp <;> omega)) hq.1
    have bP' := bP9
    have bX' : Blk v7 (w.heap.size) 57 #[.int .i64 src, .int .i64 tr, .int .i64 lo, .int .i64 ou, .int .i64 ol, .int .i64 ho, .int .i64 hl, .int .i64 ba, .int .i64 bl, .int .i64 w2', .int .i64 w3'] := hq0.blk (bn1) (by simp <;> omega)
    have bR' : Blk v7 (w.heap.size + 1) 92 #[.int .i64 0, .int .i64 0, .int .i64 0, .int .i64 0, .int .i64 0] := hq0.blk (bn1) (by simp <;> omega)
    have bS' : Blk v7 (gS) 92 #[.int .i64 (u + lo), .int .i64 (t + tr + ou + w2'), .int .i64 (t + tr + ou + ho + w3'), .int .i64 0, .int .i64 er] := hq0.blk (bn1) (by simp <;> omega)
    clear hq Kv6
    clear bP cP fP lP eP kP; have bP := bP'; clear bP'
    clear bX cX fX lX eX kX; have bX := bX'; clear bX'
    clear bR cR fR lR eR kR; have bR := bR'; clear bR'
    clear bS cS fS lS eS kS; have bS := bS'; clear bS'
    obtain ⟨cP, fP, lP, eP, kP⟩ := Blk.facts bP
    obtain ⟨cX, fX, lX, eX, kX⟩ := Blk.facts bX
    obtain ⟨cR, fR, lR, eR, kR⟩ := Blk.facts bR
    obtain ⟨cS, fS, lS, eS, kS⟩ := Blk.facts bS
    clear bP9 hq0
    go_wp2
    exact bodyPost_ret (v := .agg #[.int .i64 (u + lo), .int .i64 (t + tr + ou + w2'), .int .i64 (t + tr + ou + ho + w3'), .int .i64 (u + lo + ol + hl + bl), .int .i64 er]) (by simp [results, Tryz.results57, go_sem, *]) rfl ⟨rfl, bn1, pa1⟩
end Go.Proofs.YtlnboheahbfgfaaGreat
