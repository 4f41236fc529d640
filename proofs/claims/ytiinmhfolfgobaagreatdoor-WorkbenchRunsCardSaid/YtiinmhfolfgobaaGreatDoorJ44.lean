/- Lemmas. -/
import Derived.Test.YtiinmhfolfgobaaGreatDoorJ30
import Derived.Test.YtiinmhfolfgobaaGreatDoorJ9
import Derived.Test.YtiinmhfolfgobaaGreatDoorJ43
import Derived.Test.YtiinmhfolfgobaaGreatDoorJ34
import Derived.Test.YtiinmhfolfgobaaGreatDoorJ29
set_option linter.unusedVariables false
set_option linter.unusedSimpArgs false
namespace Go.Proofs.YtiinmhfolfgobaaGreatDoor
open Go.RowKit Go.Lib Go.Shelf Go.Sort
set_option maxHeartbeats 32000000
set_option maxRecDepth 100000
def rbC (b : Bn) (VS VK : Value) : Array Value := #[.bool b.begun, .bool (b.srcs.any (·.1)), .int .i64 (b.srcs.length : Int), .int .i64 b.li, .int .i64 b.p, VS, VK, .int .i64 b.ck.aim, .int .i64 b.ck.rate, .bool b.ck.set, .bool b.ck.held, .int .i64 b.ck.at_, .int .i64 b.ck.shown, .string ⟨b.out.toArray⟩]
def RbAt (B : Nat) (w : World) (g : Nat) (b : Bn) : Prop := B ≤ g ∧ (∀ j, (b.srcs.getD j (false, .zero)).1 = false → (b.srcs.getD j (false, .zero)).2 = .zero) ∧ ∃ VS VK, Blk w g 100 (rbC b VS VK) ∧ ((b.srcs = [] ∧ VS = .slice none 0 0 ∧ VK = .slice none 0 0) ∨ ∃ gs gk cs cb, VS = .slice (some ⟨gs, 0, none⟩) b.srcs.length b.srcs.length ∧ VK = .slice (some ⟨gk, 0, none⟩) b.srcs.length b.srcs.length ∧ B ≤ gs ∧ B ≤ gk ∧ Blk w gs 4 cs ∧ Blk w gk 44 cb ∧ KsAt cs cb b.srcs)
def RnR (B g : Nat) (w : World) (r : Bn × Int) (e : Ending) (w' : World) : Prop := e = .returned (.int .i64 r.2) ∧ RbAt B w' g r.1 ∧ PastT B [100, 4, 44] w w'
theorem keep_sliceP {g : Nat} {t : TypeId} {n : Nat} {cs : Array Value} : ∀ (d : List Value) (v : Value) (w w' : World), Past [g] w w' → SliceN [g] t n cs d v w → SliceN [g] t n cs d v w' := fun _ _ _ _ h ⟨a, e, hn, hb⟩ => ⟨a, e, hn, h.blk hb hn⟩
theorem Blk.setO {w : World} {g g' i : Nat} {t : TypeId} {cs : Array Value} (h : Blk w g' t cs) (hn : g ≠ g') (v : Value) : Blk (w.setCell ⟨g, i, none⟩ v) g' t cs := (Past.set (X := [g]) Ys v).blk h (by simp; omega)
theorem RbAt.below {B g : Nat} {w w' : World} {b : Bn} (h : RbAt B w g b) (hb : Below w.heap.size w w') : RbAt B w' g b := by
 obtain ⟨h1, hz, VS, VK, h2, h3⟩ := h
 refine ⟨h1, hz, VS, VK, Yk hb h2, ?_⟩
 rcases h3 with h3 | ⟨gs, gk, cs, cb, e1, e2, e3, e4, e5, e6, e7⟩
 ·exact .inl h3
 ·exact .inr ⟨gs, gk, cs, cb, e1, e2, e3, e4, Yk hb e5, Yk hb e6, e7⟩
theorem RbAt.out {B g : Nat} {w w' : World} {b b' : Bn} (h : RbAt B w g b) (hp : Past [g] w w') (he : b'.srcs = b.srcs) (hB : ∀ VS VK, Blk w g 100 (rbC b VS VK) → Blk w' g 100 (rbC b' VS VK)) : RbAt B w' g b' ∧ PastT B [100, 4, 44] w w' := by
 obtain ⟨h1, hz, VS, VK, h2, h3⟩ := h
 have hne : ∀ (g' : Nat) (t : TypeId) (cs : Array Value), t ≠ 100 → Blk w g' t cs → g' ∉ [g] := fun g' t cs ht hb => by
  intro hm
  have e : g' = g := by simpa using hm
  subst e
  unfold Blk at hb h2
  rw [h2] at hb; injection hb with hb; injection hb with _ e _; exact ht e.symm
 refine ⟨⟨h1, by rw [he]; exact hz, VS, VK, hB VS VK h2, ?_⟩, PastT.of_past hp (fun k hk => by
  have e : k = g := by simpa using hk
  subst e
  exact ⟨h1, _, _, _, h2, by simp⟩)⟩
 rw [he]
 rcases h3 with h3 | ⟨gs, gk, cs, cb, e1, e2, e3, e4, e5, e6, e7⟩
 ·exact .inl h3
 ·exact .inr ⟨gs, gk, cs, cb, e1, e2, e3, e4, hp.blk e5 (hne _ _ _ Yd e5), hp.blk e6 (hne _ _ _ Yd e6), e7⟩
theorem rline_c (word : List UInt8) (ws : Array UInt8) (hw : ws = word.toArray) (hl : word.length ≤ 10) (ns : List Int) (k : Nat) (hk : ns.length = k) (k6 : k ≤ 6) (hs : ∀ n ∈ ns, smallI n ∧ -9223372036854775807 ≤ n) :
  ∃ L : List UInt8, sayL word ns = L ∧ L.length ≤ 200 ∧ ∀ (W : World) (gA : Nat), NumsR W (some ⟨gA, 0, none⟩) k ns → Calls Tryz.prog 87 #[.string ⟨ws⟩, .slice (some ⟨gA, 0, none⟩) k k] W (RB W (.string ⟨L.toArray⟩)) := by
 have h1 := lnW_len (word := word) (ns := ns) (fun n hn => (hs n hn).1)
 have e : sayL word ns = lnW word ns ++ [10] := rfl
 refine ⟨_, rfl, by rw [e, lla]; simp; omega, fun W gA hN => ?_⟩
 subst hw
 rw [e]
 exact r43line_any word _ k k ns W hN hs Yo
theorem rfailed_any (B g : Nat) (b : Bn) (e : Int) (w : World) (h : RbAt B w g b) (he : errI e) (hl : b.out.length ≤ 900000) :
  Calls Tryz.prog 86 #[.pointer (some ⟨g, 0, none⟩), .int .i64 e] w (RnR B g w (b.tell e)) := by
 have HH := Yh h
 obtain ⟨hB0, hz0, VS, VK, bB, -⟩ := h
 clear hz0
 obtain ⟨L, hL, nL, rL⟩ := rline_c wError #[101, 114, 114, 111, 114] rfl Yd [e] 1 rfl Yd (fun n hn => by simp at hn; subst hn; exact ⟨he.small, by have := he.1; omega⟩)
 have RL := Yh rL; have HL := Yh hL; clear rL hL
 obtain ⟨O, hO⟩ : ∃ O, b.out = O := ⟨_, rfl⟩
 rw [hO] at hl
 obtain ⟨O2, hO2⟩ : ∃ M, O ++ L = M := ⟨_, rfl⟩
 have HO := Yh hO; have HO2 := Yh hO2; clear hO2
 have hgl := bB.lt
 unfold rbC at bB
 rw [hO] at bB
 clear hO
 go_enter Tryz.func86, Tryz.ntmps86
 go_upto_region 1 with fail
 refine' wp_region_calm Yr (fun n _ w' => Past [g] w w' ∧ (n = 0 → Blk w' g 100 #[.bool b.begun, .bool (b.srcs.any (·.1)), .int .i64 (b.srcs.length : Int), .int .i64 b.li, .int .i64 b.p, VS, VK, .int .i64 b.ck.aim, .int .i64 b.ck.rate, .bool b.ck.set, .bool b.ck.held, .int .i64 b.ck.at_, .int .i64 b.ck.shown, .string ⟨O.toArray⟩]) ∧ (n = 1 → Blk w' g 100 #[.bool b.begun, .bool (b.srcs.any (·.1)), .int .i64 (b.srcs.length : Int), .int .i64 b.li, .int .i64 b.p, VS, VK, .int .i64 b.ck.aim, .int .i64 b.ck.rate, .bool b.ck.set, .bool b.ck.held, .int .i64 b.ck.at_, .int .i64 b.ck.shown, .string ⟨O2.toArray⟩])) (fun a b => Past [g] a b) [Is _, Is _, Is _, Is _, Is _, (SliceN [g] 3 1 #[.int .i64 e]), Is _, (Is (.string ⟨O2.toArray⟩)), Is _, Is _, (fun _ _ _ => True)] [[], [0], [1], [2], [], [4], [5], [3, 6], [0], [8], [9, 7]] [10] [] rfl (calmB_of Yr) Yp ?_ (Y1 (Y1 (Y1 (Y1 (Y1 (kcc keep_sliceP (Y1 (Y1 (Y1 (Y1 (Y0 Yn))))))))))) ?_ ?_
 ·intro _
  exact ⟨(Past.refl _ _).drew, (fun _ => (bB.drew)), Ye⟩
 rotate_left 8
 ·skip
  iterate 3 refine zq0 ?_
  refine zq1 (fun _ _ _ _ hn2 ⟨_, h0, _⟩ => have hB := h0 (Nat.le_zero.1 (hn2 0 10 rfl Yr)); Ya hB (Yq hB)) ?_
  refine zq0 ?_
  refine Yz (fun u wq n hn hn2 hC hk K hK => ?_) ?_
  ·obtain ⟨hP, h0, h1⟩ := hC
   simp only [calmKnown, lg0, lg1, and_true, Is, Pure, osj, ld0, ld1, lm1, lm0] at hk
   have h4 := hk; clear hk
   simp only [h4] at hK ⊢
   have H4 := Yh h4; clear h4
   have hz9 := hP.1
   go_simp
   exact hK _ _ _ rfl ⟨hP.allocs _, (fun h => (h0 h).alloc _), (fun h => (h1 h).alloc _)⟩ ((Past.refl _ _).allocs _) ⟨_, rfl, Y7, Blk.new _ _ _⟩
  refine Yz (fun u wq n hn hn2 hC hk K hK => ?_) ?_
  ·obtain ⟨hP, h0, h1⟩ := hC
   simp only [calmKnown, lg0, lg1, and_true, Is, Pure, osj, ld0, ld1, lm1, lm0] at hk
   obtain ⟨g5, h5, -, q5⟩ := hk
   simp only [h5] at hK ⊢
   have H5 := Yh h5; clear h5
   go_wp2_with fail
   refine (RL.out _ _ (NumsR.of (zs := [e]) q5)).mono ?_
   rintro e w9 ⟨rfl, hbl⟩
   exact hK _ _ _ rfl ⟨hP.call hbl, (fun h => Yk hbl (h0 h)), (fun h => Yk hbl (h1 h))⟩ (Past.below hbl) rfl
  refine Yz (fun u wq n hn hn2 hC hk K hK => ?_) ?_
  ·obtain ⟨hP, h0, h1⟩ := hC
   simp only [calmKnown, lg0, lg1, and_true, Is, Pure, osj, ld0, ld1, lm1, lm0] at hk
   obtain ⟨h3, h6⟩ := hk
   simp only [h3, h6] at hK ⊢
   have H3 := Yh h3; clear h3; have H6 := Yh h6; clear h6
   have ea : ({ data := O.toArray } : ByteArray) ++ { data := L.toArray } = { data := O2.toArray } := by rw [← HO2.out]; simp [ByteArray.mk_append_mk]
   go_simp
   (try simp only [ea])
   (try simp only [HO2.out])
   rw [if_neg Yo, Oper.upon_value]
   exact hK _ _ _ rfl ⟨hP, h0, h1⟩ (Past.refl _ _) rfl
  iterate 2 refine zq0 ?_
  refine Yz (fun u wq n hn hn2 hC hk K hK => ?_) ?_
  ·obtain ⟨hP, h0, h1⟩ := hC
   simp only [calmKnown, lg0, lg1, and_true, Is, Pure, osj, ld0, ld1, lm1, lm0] at hk
   obtain ⟨h9, h7⟩ := hk
   simp only [h9, h7] at hK ⊢
   have H9 := Yh h9; clear h9; have H7 := Yh h7; clear h7
   obtain rfl := hn 0 rfl
   have hB := h0 rfl
   have cB := hB.cell; have lB := hB.lt; have fB := hB.frozen
   have hB2 := hB.set_ 13 (.string ⟨O2.toArray⟩)
   try unfold rbC at cB
   try unfold rbC at hB2
   (try simp only [lst, ls0, ls1] at hB2)
   go_simp
   exact hK _ undef _ rfl ⟨hP.trans (Past.set Ys _), Ye, (fun _ => (by exact hB2))⟩ (Past.set Ys _) trivial
  exact Yw
 ·intro u w9 hC hF
  obtain ⟨hP, -, h1⟩ := hC
  have hB := h1 rfl
  clear h1 hF
  obtain ⟨hb9, hT9⟩ := HH.out.out (b' := (b.tell e).1) hP rfl (fun VS' VK' hB' => by
   unfold Blk at hB' bB
   rw [bB] at hB'
   injection hB' with hB'
   injection hB' with hB' _ _
   have e1 : VS = VS' := by have h9 := congrArg (fun a => a[5]?) hB'; simpa [rbC] using h9
   have e2 : VK = VK' := by have h9 := congrArg (fun a => a[6]?) hB'; simpa [rbC] using h9
   subst e1; subst e2
   have e3 : rbC (b.tell e).1 VS VK = #[.bool b.begun, .bool (b.srcs.any (·.1)), .int .i64 (b.srcs.length : Int), .int .i64 b.li, .int .i64 b.p, VS, VK, .int .i64 b.ck.aim, .int .i64 b.ck.rate, .bool b.ck.set, .bool b.ck.held, .int .i64 b.ck.at_, .int .i64 b.ck.shown, .string ⟨O2.toArray⟩] := by
    show rbC (b.say wError [e]) VS VK = _
    unfold rbC Bn.say
    dsimp only
    rw [HO.out, HL.out, HO2.out]
   rw [e3]; exact hB)
  have H9 := Yh (Ya hb9 hT9)
  clear hb9 hT9 hP hB bB
  go_wp2
  go_ret
  exact ⟨rfl, H9.out.1, H9.out.2⟩
theorem rdrift_any (B g : Nat) (b : Bn) (q : Int) (w : World) (h : RbAt B w g b) (hl : b.out.length ≤ 900000) :
  Calls Tryz.prog 80 #[.pointer (some ⟨g, 0, none⟩), .int .i64 q] w (RnR B g w (b.drift q)) := by
 have HH := Yh h
 obtain ⟨hB0, hz0, VS, VK, bB, -⟩ := h
 clear hz0
 unfold rbC at bB
 obtain ⟨a, ha⟩ : ∃ a, b.srcs.any (·.1) = a := ⟨_, rfl⟩
 have HA := Yh ha
 simp only [ha] at bB
 clear ha
 have cB := bB.cell; have lB := bB.lt; have fB := bB.frozen
 go_enter Tryz.func80, Tryz.ntmps80
 cases a with
 | true =>
  go_wp2
  go_ret
  have e : b.drift q = (b, 7) := by unfold Bn.drift; rw [if_pos HA.out]
  rw [e]
  exact ⟨rfl, HH.out, PastT.refl _ _ _⟩
 | false =>
  by_cases hr : 0 ≤ q ∧ q ≤ 1000000
  rotate_left 1
  ·have e : b.drift q = (b, 4) := by unfold Bn.drift; rw [if_neg (by rw [HA.out]; decide), if_neg hr]
   rw [e]
   by_cases h0 : q < 0
   ·have g1 : decide (q < 0) = true := decide_eq_true h0
    go_wp2
    go_ret
    exact ⟨rfl, HH.out, PastT.refl _ _ _⟩
   ·have g1 : decide (q < 0) = false := decide_eq_false h0
    have g2 : decide (q > 1000000) = true := Y2
    go_wp2
    go_ret
    exact ⟨rfl, HH.out, PastT.refl _ _ _⟩
  have e : b.drift q = (Bn.say { b with p := q } wDrift [q], 0) := by unfold Bn.drift; rw [if_neg (by rw [HA.out]; decide), if_pos hr]
  rw [e]
  clear e
  have g1 : decide (q < 0) = false := Y3
  have g2 : decide (q > 1000000) = false := Y3
  obtain ⟨L, hL, nL, rL⟩ := rline_c wDrift #[100, 114, 105, 102, 116] rfl Yd [q] 1 rfl Yd (fun n hn => by simp at hn; subst hn; exact ⟨by unfold smallI; omega, Yo⟩)
  have RL := Yh rL; have HL := Yh hL; clear rL hL
  obtain ⟨O, hO⟩ : ∃ O, b.out = O := ⟨_, rfl⟩
  rw [hO] at hl
  obtain ⟨O2, hO2⟩ : ∃ M, O ++ L = M := ⟨_, rfl⟩
  have HO := Yh hO; have HO2 := Yh hO2; clear hO2
  have hgl := bB.lt
  have bB1 := bB.set_ 4 (.int .i64 q)
  simp only [lst, ls0, ls1] at bB1
  have hP1 : Past [g] w (w.setCell ⟨g, 4, none⟩ (.int .i64 q)) := Past.set Ys _
  go_upto_region 6 with fail
  obtain ⟨w1, hw1⟩ : ∃ w9 : World, w9 = w.setCell ⟨g, 4, none⟩ (.int .i64 q) := ⟨_, rfl⟩
  rw [← hw1] at bB1 hP1 ⊢
  clear hw1 cB lB fB
  have hz1 := hP1.1
  have bB0 := bB; clear bB; have bB := bB1; clear bB1
  simp only [hO] at bB
  clear hO
  refine' wp_region_calm Yr (fun n _ w' => Past [g] w1 w' ∧ (n = 0 → Blk w' g 100 #[.bool b.begun, .bool false, .int .i64 (b.srcs.length : Int), .int .i64 b.li, .int .i64 q, VS, VK, .int .i64 b.ck.aim, .int .i64 b.ck.rate, .bool b.ck.set, .bool b.ck.held, .int .i64 b.ck.at_, .int .i64 b.ck.shown, .string ⟨O.toArray⟩]) ∧ (n = 1 → Blk w' g 100 #[.bool b.begun, .bool false, .int .i64 (b.srcs.length : Int), .int .i64 b.li, .int .i64 q, VS, VK, .int .i64 b.ck.aim, .int .i64 b.ck.rate, .bool b.ck.set, .bool b.ck.held, .int .i64 b.ck.at_, .int .i64 b.ck.shown, .string ⟨O2.toArray⟩])) (fun a b => Past [g] a b) [Is _, Is _, Is _, Is _, Is _, (SliceN [g] 3 1 #[.int .i64 q]), Is _, (Is (.string ⟨O2.toArray⟩)), Is _, Is _, (fun _ _ _ => True)] [[], [0], [1], [2], [], [4], [5], [3, 6], [0], [8], [9, 7]] [10] [] rfl (calmB_of Yr) Yp ?_ (Y1 (Y1 (Y1 (Y1 (Y1 (kcc keep_sliceP (Y1 (Y1 (Y1 (Y1 (Y0 Yn))))))))))) ?_ ?_
  ·intro _
   exact ⟨(Past.refl _ _).drew, (fun _ => (bB.drew)), Ye⟩
  rotate_left 8
  ·skip
   iterate 3 refine zq0 ?_
   refine zq1 (fun _ _ _ _ hn2 ⟨_, h0, _⟩ => have hB := h0 (Nat.le_zero.1 (hn2 0 10 rfl Yr)); Ya hB (Yq hB)) ?_
   refine zq0 ?_
   refine Yz (fun u wq n hn hn2 hC hk K hK => ?_) ?_
   ·obtain ⟨hP, h0, h1⟩ := hC
    simp only [calmKnown, lg0, lg1, and_true, Is, Pure, osj, ld0, ld1, lm1, lm0] at hk
    have h4 := hk; clear hk
    simp only [h4] at hK ⊢
    have H4 := Yh h4; clear h4
    have hz9 := hP.1
    go_simp
    exact hK _ _ _ rfl ⟨hP.allocs _, (fun h => (h0 h).alloc _), (fun h => (h1 h).alloc _)⟩ ((Past.refl _ _).allocs _) ⟨_, rfl, Y7, Blk.new _ _ _⟩
   refine Yz (fun u wq n hn hn2 hC hk K hK => ?_) ?_
   ·obtain ⟨hP, h0, h1⟩ := hC
    simp only [calmKnown, lg0, lg1, and_true, Is, Pure, osj, ld0, ld1, lm1, lm0] at hk
    obtain ⟨g5, h5, -, q5⟩ := hk
    simp only [h5] at hK ⊢
    have H5 := Yh h5; clear h5
    go_wp2_with fail
    refine (RL.out _ _ (NumsR.of (zs := [q]) q5)).mono ?_
    rintro e w9 ⟨rfl, hbl⟩
    exact hK _ _ _ rfl ⟨hP.call hbl, (fun h => Yk hbl (h0 h)), (fun h => Yk hbl (h1 h))⟩ (Past.below hbl) rfl
   refine Yz (fun u wq n hn hn2 hC hk K hK => ?_) ?_
   ·obtain ⟨hP, h0, h1⟩ := hC
    simp only [calmKnown, lg0, lg1, and_true, Is, Pure, osj, ld0, ld1, lm1, lm0] at hk
    obtain ⟨h3, h6⟩ := hk
    simp only [h3, h6] at hK ⊢
    have H3 := Yh h3; clear h3; have H6 := Yh h6; clear h6
    have ea : ({ data := O.toArray } : ByteArray) ++ { data := L.toArray } = { data := O2.toArray } := by rw [← HO2.out]; simp [ByteArray.mk_append_mk]
    go_simp
    (try simp only [ea])
    (try simp only [HO2.out])
    rw [if_neg Yo, Oper.upon_value]
    exact hK _ _ _ rfl ⟨hP, h0, h1⟩ (Past.refl _ _) rfl
   iterate 2 refine zq0 ?_
   refine Yz (fun u wq n hn hn2 hC hk K hK => ?_) ?_
   ·obtain ⟨hP, h0, h1⟩ := hC
    simp only [calmKnown, lg0, lg1, and_true, Is, Pure, osj, ld0, ld1, lm1, lm0] at hk
    obtain ⟨h9, h7⟩ := hk
    simp only [h9, h7] at hK ⊢
    have H9 := Yh h9; clear h9; have H7 := Yh h7; clear h7
    obtain rfl := hn 0 rfl
    have hB := h0 rfl
    have cB := hB.cell; have lB := hB.lt; have fB := hB.frozen
    have hB2 := hB.set_ 13 (.string ⟨O2.toArray⟩)
    try unfold rbC at cB
    try unfold rbC at hB2
    (try simp only [lst, ls0, ls1] at hB2)
    go_simp
    exact hK _ undef _ rfl ⟨hP.trans (Past.set Ys _), Ye, (fun _ => (by exact hB2))⟩ (Past.set Ys _) trivial
   exact Yw
  ·intro u w9 hC hF
   obtain ⟨hP, -, h1⟩ := hC
   have hB := h1 rfl
   clear h1 hF
   obtain ⟨hb9, hT9⟩ := HH.out.out (b' := (Bn.say { b with p := q } wDrift [q])) (hP1.trans hP) rfl (fun VS' VK' hB' => by
    unfold Blk at hB' bB0
    rw [bB0] at hB'
    injection hB' with hB'
    injection hB' with hB' _ _
    have e1 : VS = VS' := by have h9 := congrArg (fun a => a[5]?) hB'; simpa [rbC] using h9
    have e2 : VK = VK' := by have h9 := congrArg (fun a => a[6]?) hB'; simpa [rbC] using h9
    subst e1; subst e2
    have e3 : rbC (Bn.say { b with p := q } wDrift [q]) VS VK = #[.bool b.begun, .bool false, .int .i64 (b.srcs.length : Int), .int .i64 b.li, .int .i64 q, VS, VK, .int .i64 b.ck.aim, .int .i64 b.ck.rate, .bool b.ck.set, .bool b.ck.held, .int .i64 b.ck.at_, .int .i64 b.ck.shown, .string ⟨O2.toArray⟩] := by
     unfold rbC Bn.say
     dsimp only
     rw [HO.out, HL.out, HO2.out, HA.out]
    rw [e3]; exact hB)
   have H9 := Yh (Ya hb9 hT9)
   clear hb9 hT9 hP hB bB bB0 hP1
   go_wp2
   go_ret
   exact ⟨rfl, H9.out.1, H9.out.2⟩
def RmRel (w : World) (l : List Kw) (ns : Nat) (G : Nat) (v i : Value) (wr : World) : Prop := ∃ (q m : Nat) (A : Option Addr) (c : Nat), q ≤ ns ∧ G = ns - q ∧ i = .int .i64 q ∧ v = .slice A m c ∧ m = (knowns (l.take q)).length ∧ RowK wr w.heap.size (.slice A m c) (knowns (l.take q)) ∧ Below w.heap.size w wr
theorem rmergeB_any (B g : Nat) (b : Bn) (u : Int) (w : World) (h : RbAt B w g b) (hn8 : b.srcs.length ≤ 8) :
  Calls Tryz.prog 85 #[.pointer (some ⟨g, 0, none⟩), .int .i64 u] w (RB w (.tuple #[.agg #[.int .i64 (mgO (knowns b.srcs) u b.li).1, .int .i64 (mgO (knowns b.srcs) u b.li).2.1], .int .i64 (mgO (knowns b.srcs) u b.li).2.2])) := by
 obtain ⟨hB0, hz0, VS, VK, bB, hrows⟩ := h
 clear hz0
 have lB0 := bB.lt
 obtain ⟨by9, hby9⟩ : ∃ l, b.srcs = l := ⟨_, rfl⟩
 obtain ⟨li, hli⟩ : ∃ z, b.li = z := ⟨_, rfl⟩
 unfold rbC at bB
 simp only [hby9, hli] at bB hrows hn8 ⊢
 obtain ⟨ns, hns⟩ : ∃ n, by9.length = n := ⟨_, rfl⟩
 simp only [hns] at bB hrows hn8
 have HBL := Yh hns
 clear hns hby9 hli
 have hspec := Yh (mgO_spec (knowns by9) u li)
 obtain ⟨m3, hm3⟩ : ∃ z, mgO (knowns by9) u li = z := ⟨_, rfl⟩
 rw [hm3] at hspec ⊢
 obtain ⟨x9, y9, e9⟩ := m3
 dsimp only at hspec ⊢
 clear hm3
 have S1 : Below w.heap.size w (w.alloc (.cells #[.int .i64 0, .int .i64 0] 40)) := below_new _ _
 have bC := Blk.new w 40 #[.int .i64 0, .int .i64 0]
 have bB1 := Yk S1 bB
 have Z1 : w.heap.size + 1 ≤ (w.alloc (.cells #[.int .i64 0, .int .i64 0] 40)).heap.size := by simp
 go_enter Tryz.func85, Tryz.ntmps85
 go_upto_region 1 with fail
 obtain ⟨w1, hw1⟩ : ∃ x : World, x = w.alloc (.cells #[.int .i64 0, .int .i64 0] 40) := ⟨_, rfl⟩
 rw [← hw1] at S1 bC bB1 Z1 ⊢
 clear hw1 bB
 have hrows1 : (by9 = [] ∧ VS = .slice none 0 0 ∧ VK = .slice none 0 0) ∨ ∃ gs gk cs cb, VS = .slice (some ⟨gs, 0, none⟩) ns ns ∧ VK = .slice (some ⟨gk, 0, none⟩) ns ns ∧ Blk w1 gs 4 cs ∧ Blk w1 gk 44 cb ∧ KsAt cs cb by9 := by
  rcases hrows with h | ⟨gs, gk, cs, cb, a1, a2, -, -, a3, a4, a5⟩
  ·exact .inl h
  ·exact .inr ⟨gs, gk, cs, cb, a1, a2, Yk S1 a3, Yk S1 a4, a5⟩
 clear hrows
 have HR := Yh hrows1; have HB := Yh bB1; have HC := Yh bC; have HS := Yh S1; have hB1 := bB1.lt; have hC1 := bC.lt
 clear hrows1 bB1 bC S1
 go_wp2
 go_loopg [6, 7] ns (fun G v i wr => RmRel w1 by9 ns G v i wr)
 case atStart => exact ⟨0, 0, none, 0, Yo, Yo, rfl, rfl, rfl, RowK.nil, Below.refl _ _⟩
 case round =>
  obtain ⟨q2, mm, LA2, lc2, hq2, rfl, rfl, rfl, hmm, hrow, KR2⟩ := hrel
  have ZR2 := KR2.size
  have hrl := RowK.lt hrow
  have HROW := Yh hrow; have HKR2 := Yh KR2; have HM := Yh hmm; clear hmm hrow
  have bB := Yk KR2 HB.out
  have cB := bB.cell; have lB := bB.lt
  by_cases hlt2 : q2 < ns
  ·have gp : decide ((q2 : Int) < (ns : Int)) = true := Y2
   have gpn : decide (q2 < ns) = true := decide_eq_true hlt2
   have wp9 : IntKind.i64.wrap ((q2 : Int) + 1) = ((q2 + 1 : Nat) : Int) := Y4
   rcases HR.out with ⟨hnil, -, -⟩ | ⟨gs, gk, cs, cb, rfl, rfl, HBS, HBK, HKS⟩
   ·have h9 := HBL.out; rw [hnil] at h9; simp at h9; omega
   clear HR
   have bS := Yk KR2 HBS; have bK := Yk KR2 HBK
   have lS2 := bS.lt; have lK2 := bK.lt
   obtain ⟨hc1, hc2⟩ := HKS.2.2 q2 (by rw [HBL.out]; exact hlt2)
   have hst := knowns_next (l := by9) (q := q2) (by rw [HBL.out]; exact hlt2)
   have d9 := (bS.cell q2).trans hc1
   have d0 := (bK.cell (q2 * 6)).trans (hc2 0 Yo)
   have d1 := (bK.cell (q2 * 6 + 1)).trans (hc2 1 Yo)
   have d2 := (bK.cell (q2 * 6 + 2)).trans (hc2 2 Yo)
   have d3 := (bK.cell (q2 * 6 + 3)).trans (hc2 3 Yo)
   have d4 := (bK.cell (q2 * 6 + 4)).trans (hc2 4 Yo)
   have d5 := (bK.cell (q2 * 6 + 5)).trans (hc2 5 Yo)
   obtain ⟨kv, hkv⟩ : ∃ kv, by9.getD q2 (false, .zero) = kv := ⟨_, rfl⟩
   rw [hkv] at d0 d1 d2 d3 d4 d5 d9 hst
   clear hkv hc1 hc2 HKS
   obtain ⟨bb, na, nlo, nhi, np, nle, nre⟩ := kv
   simp only [K6.cs, lg0, lg1] at d0 d1 d2 d3 d4 d5
   dsimp only at hst d9
   have HST := Yh hst; clear hst bS bK KR2 HBS HBK
   cases bb with
   | false =>
    have HST2 := Yh (HST.out.trans Ys : knowns (by9.take (q2 + 1)) = knowns (by9.take q2))
    clear HST
    go_wp2
    go_roundg (ns - (q2 + 1))
    case measure => omega
    case rel => exact ⟨q2 + 1, mm, LA2, lc2, Yo, Yo, by go_num, rfl, by rw [HST2.out]; exact HM.out, by rw [HST2.out]; exact RowK.below HROW.out bl0, (Yc (show Below wr.heap.size wr _ from bl0) HKR2.out)⟩
   | true =>
    have HST2 := Yh (HST.out.trans Ys : knowns (by9.take (q2 + 1)) = knowns (by9.take q2) ++ [(⟨na, nlo, nhi, np, nle, nre⟩ : K6)])
    clear HST
    have hm64 : mm ≤ 64 := by have h9 := knowns_len (by9.take q2); rw [← HM.out, List.length_take] at h9; omega
    obtain ⟨i0, hif, hz0, hz1, hz2⟩ := info_parts infoKn
    generalize hv : (Value.slice LA2 mm lc2) = v9 at *
    have hrl := RowK.lt HROW.out
    have HRW := Yh HROW.out
    clear hv HROW
    go_wp2_with (at_builtin; go_loud (refine wpList_append_lies _ rfl _ _ 53 rfl w1.heap.size 44 i0 (.agg #[.int .i64 0, .int .i64 0, .int .i64 0, .int .i64 0, .int .i64 0, .int .i64 0]) 6 48 Tryz.underlying53 hif hz0 hz1 hz2 rfl Yd v9 mm (kCells (knowns (by9.take q2))) rfl (own_belowK HRW.out HM.out bl0) ⟨wr.heap.size, 0, none⟩ 1 1 [.int .i64 na, .int .i64 nlo, .int .i64 nhi, .int .i64 np, .int .i64 nle, .int .i64 nre] rfl rfl (World.news_of_block (t := 44) (fr := (0, 0)) (Blk.new _ _ _)) ?c2 Yd ?c3 ?c4 ?c5 _ rfl ?_))
    case c2 => first | exact ⟨rfl, rfl, rfl, rfl, rfl, rfl⟩ | (intro u hu; simp at hu; rcases hu with rfl | rfl | rfl | rfl | rfl | rfl <;> rfl)
    case c3 => unfold maxLen; omega
    case c4 => omega
    case c5 => first | omega | (simp <;> omega)
    intro g7 cp7 w7 hown hgrow hlie hglt
    have K7 : Below w1.heap.size w1 w7 := (Yc (show Below wr.heap.size wr _ from bl0) HKR2.out).grown hgrow (by simp; omega) (fun k hk => (hrl k hk).1)
    have R7 : RowK w7 w1.heap.size (.slice (some ⟨g7, 0, none⟩) (mm + 1) cp7) (knowns (by9.take q2) ++ [(⟨na, nlo, nhi, np, nle, nre⟩ : K6)]) := by
     unfold RowK
     rw [lla, List.length_singleton, ← HM.out, kCells_snoc]; exact hown
    have H7 := Yh (Ya K7 R7)
    clear hown hgrow hlie hglt K7 R7
    go_wp2
    go_roundg (ns - (q2 + 1))
    case measure => omega
    case rel => exact ⟨q2 + 1, mm + 1, _, _, Yo, Yo, by go_num, rfl, by rw [HST2.out, lla, List.length_singleton, ← HM.out], by rw [HST2.out]; exact H7.out.2, H7.out.1⟩
  ·obtain rfl : q2 = ns := by omega
   have gp : decide ((q2 : Int) < (q2 : Int)) = false := Y3
   have gpn : decide (q2 < q2) = false := Y3
   have htk : by9.take q2 = by9 := by rw [← HBL.out]; exact List.take_length
   have hrow := HROW.out; have hm := HM.out
   rw [htk] at hrow hm
   have hkl := knowns_len by9
   have hm5 : mm ≤ 8 := by rw [HBL.out] at hkl; omega
   have hkn : KnAt wr LA2 mm (knowns by9) := by have h := hrow; subst hm; exact RowK.known h Yo
   have HX := Yh hkn; have HM0 := Yh hm
   clear hkn hrow htk hkl HROW HM hm hrl
   go_wp2_with fail
   refine (rmerge_fix hspec.out LA2 mm lc2 _ HX.out).mono ?_
   rintro e w9 ⟨rfl, hb9⟩
   have bC9 := Yk hb9 (Yk KR2 HC.out)
   have bC9 := Yk hb9 (Yk KR2 HC.out)
   have HK9 := Yh (show Below w.heap.size w w9 from Yc hb9 (Yc KR2 HS.out))
   have Z9 := hb9.size
   clear hb9 cB lB bB
   obtain ⟨cC, fC, lC, eC, kC⟩ := Yf bC9
   go_wp2
   exact Yb (v := .tuple #[.agg #[.int .i64 x9, .int .i64 y9], .int .i64 e9]) (by simp [results, Tryz.results85, go_sem, *]) rfl ⟨rfl, (have z9 := HK9.out; bl1)⟩
theorem r43read_rb (c : Clk) (t lo hi : Int) (w : World) : Calls Tryz.prog 122 #[.agg #[.int .i64 c.aim, .int .i64 c.rate, .bool c.set, .bool c.held, .int .i64 c.at_, .int .i64 c.shown], .int .i64 t, .agg #[.int .i64 lo, .int .i64 hi]] w (RB w (.tuple #[.agg (readK c t lo hi).cs.toArray, .int .i64 (rdK c t lo hi)])) := by
 refine (rread_any c.aim c.rate c.set c.held c.at_ c.shown t lo hi w).mono ?_
 rintro e w' ⟨h1, h2⟩
 rw [readK_V] at h1
 exact ⟨h1, h2⟩
theorem shown_lo {c : Clk} {u lo hi : Int} (h : rdK c u lo hi = 0) : -9223372036854775807 ≤ (readK c u lo hi).shown := by
 have h' : rdE c.aim c.rate c.set c.at_ c.shown u lo hi = 0 := h
 unfold readK
 rw [if_pos h']
 show _ ≤ rdShown c.aim c.rate c.set c.at_ c.shown u lo hi
 unfold rdE at h'
 split at h'
 ·omega
 ·rename_i hc
  have hc' : chk c.aim c.rate c.at_ c.shown = 0 := by simpa using hc
  obtain ⟨a0, a1, -, -, -, hsh⟩ := chk_zero hc'
  split at h'
  ·omega
  ·rename_i hv
   have hv' := vS_true.1 (by simpa using hv : vS lo hi = true)
   have hs := vT_true.1 hsh
   have hp := part_b (aim := c.aim) hv'.2.1 a0 a1
   unfold rdShown
   repeat' split
   all_goals omega
theorem rreadB_any (B g : Nat) (b : Bn) (aim u : Int) (w : World) (h : RbAt B w g b) (hl : b.out.length ≤ 900000) (hn8 : b.srcs.length ≤ 8) :
  Calls Tryz.prog 83 #[.pointer (some ⟨g, 0, none⟩), .int .i64 aim, .int .i64 u] w (RnR B g w (b.read aim u)) := by
 have HH := Yh h
 have RM := Yh (fun W h => rmergeB_any B g b u W h hn8)
 have hmb := mgO_b (knowns b.srcs) u b.li
 unfold Bn.read
 obtain ⟨m3, hm3⟩ : ∃ z, mgO (knowns b.srcs) u b.li = z := ⟨_, rfl⟩
 rw [hm3] at RM hmb ⊢
 obtain ⟨x, y, er⟩ := m3
 dsimp only at RM hmb
 clear hm3
 have HMB := Yh hmb; clear hmb h
 obtain ⟨hB0, -, VS, VK, bB0, -⟩ := HH.out
 have HB0 := Yh bB0
 have hgl := bB0.lt
 clear bB0
 by_cases her : er = 0
 rotate_left 1
 ·have g1 : (er == 0) = false := by simpa using her
  have g2 : (er != 0) = true := by simpa using her
  have hr : b.readT aim u (x, y, er) = b.tell er := if_neg her
  rw [hr]
  clear hr
  go_enter Tryz.func83, Tryz.ntmps83
  go_wp2_with fail
  refine (RM.out _ HH.out).mono ?_
  rintro e w1 ⟨rfl, hb1⟩
  have Z1 := hb1.size
  have H1 := Yh (HH.out.below hb1); have HB1 := Yh hb1
  clear hb1
  go_wp2_with fail
  refine (rfailed_any B g b er _ (H1.out.below bl0) HMB.out.1 hl).mono ?_
  rintro e w3 ⟨rfl, h3, hT3⟩
  go_wp2
  go_ret
  exact ⟨rfl, h3, (PastT.below (show Below w.heap.size w _ from Yc (show Below w1.heap.size w1 _ from bl0) HB1.out)).trans hT3⟩
 subst her
 have hxy := vS_small (HMB.out.2 rfl)
 have RR := Yh (fun W => r43read_rb (b.aimed aim) u x y W)
 have hee := rdE_b (b.aimed aim) u x y
 obtain ⟨c9, hc9⟩ : ∃ c9, readK (b.aimed aim) u x y = c9 := ⟨_, rfl⟩
 obtain ⟨e9, he9⟩ : ∃ e9, rdK (b.aimed aim) u x y = e9 := ⟨_, rfl⟩
 have hsh : e9 = 0 → smallI c9.shown ∧ -9223372036854775807 ≤ c9.shown := fun h0 => by rw [← hc9]; exact ⟨shown_b (by rw [he9]; exact h0), shown_lo (by rw [he9]; exact h0)⟩
 have hr0 : e9 = 0 → b.readT aim u (x, y, 0) = (b.shows c9, 0) := fun h0 => by unfold Bn.readT; rw [if_pos rfl, if_pos (by show rdK (b.aimed aim) u x y = 0; rw [he9]; exact h0)]; show (b.shows (readK (b.aimed aim) u x y), _) = _; rw [hc9]
 have hr1 : e9 ≠ 0 → b.readT aim u (x, y, 0) = b.tell e9 := fun h0 => by unfold Bn.readT; rw [if_pos rfl, if_neg (by show ¬ rdK (b.aimed aim) u x y = 0; rw [he9]; exact h0)]; show b.tell (rdK (b.aimed aim) u x y) = _; rw [he9]
 rw [hc9, he9] at RR
 rw [he9] at hee
 have HSH := Yh hsh; have HR0 := Yh hr0; have HR1 := Yh hr1; have HEE := Yh hee
 clear hc9 he9 hsh hr0 hr1 hee hxy
 obtain ⟨n0, n1, n2, n3, n4, n5⟩ := c9
 simp only [Clk.cs, Bn.aimed] at RR
 go_enter Tryz.func83, Tryz.ntmps83
 go_wp2_with fail
 refine (RM.out _ HH.out).mono ?_
 rintro e w1 ⟨rfl, hb1⟩
 have hq1 : Past [] w w1 := Past.below hb1
 have bP := Yk hb1 HB0.out
 have Z1 : w.heap.size ≤ w1.heap.size := hb1.size
 unfold rbC at bP
 clear hb1
 obtain ⟨cP, fP, lP, eP, kP⟩ := Yf bP
 go_upto_region 5 with fail
 obtain ⟨w4, hX9⟩ : ∃ x9 : World, x9 = ((w1.alloc (.cells #[.int .i64 x, .int .i64 y] 40)).alloc (.cells #[.int .i64 b.ck.aim, .int .i64 b.ck.rate, .bool b.ck.set, .bool b.ck.held, .int .i64 b.ck.at_, .int .i64 b.ck.shown] 70)) := ⟨_, rfl⟩
 have hqX : Past [] w w4 := by rw [hX9]; exact pa1
 have bP' : Blk w4 (g) 100 #[.bool b.begun, .bool (b.srcs.any (·.1)), .int .i64 (b.srcs.length : Int), .int .i64 b.li, .int .i64 b.p, VS, VK, .int .i64 b.ck.aim, .int .i64 b.ck.rate, .bool b.ck.set, .bool b.ck.held, .int .i64 b.ck.at_, .int .i64 b.ck.shown, .string ⟨b.out.toArray⟩] := by rw [hX9]; exact bn1
 have bA' : Blk w4 (w1.heap.size) 40 #[.int .i64 x, .int .i64 y] := by rw [hX9]; exact (Blk.new _ _ _).alloc _
 have bT' : Blk w4 ((w1.heap.size + 1)) 70 #[.int .i64 b.ck.aim, .int .i64 b.ck.rate, .bool b.ck.set, .bool b.ck.held, .int .i64 b.ck.at_, .int .i64 b.ck.shown] := by rw [hX9]; exact Blk.new1 _ _ _ _
 have Zw4 : w1.heap.size + 2 ≤ w4.heap.size := by rw [hX9]; first | omega | (simp; done) | (simp [setAll_size]; done) | (simp <;> omega)
 rw [← hX9]
 clear hX9 hq1
 clear bP cP fP lP eP kP; have bP := bP'; clear bP'
 have bA := bA'; clear bA'
 have bT := bT'; clear bT'
 have hqXw4 := hqX; clear hqX
 obtain ⟨cP, fP, lP, eP, kP⟩ := Yf bP
 obtain ⟨cA, fA, lA, eA, kA⟩ := Yf bA
 obtain ⟨cT, fT, lT, eT, kT⟩ := Yf bT
 have oA := lA
 have oT := lT
 go_upto_region 6 with fail
 obtain ⟨w5, hX9⟩ : ∃ x9 : World, x9 = ((w4.setCell ⟨w1.heap.size + 1, 0, none⟩ (.int .i64 aim)).setCell ⟨w1.heap.size + 1, 1, none⟩ (.int .i64 1000000)) := ⟨_, rfl⟩
 have hqX : Past [] w w5 := by rw [hX9]; exact pa1
 have bP' : Blk w5 (g) 100 #[.bool b.begun, .bool (b.srcs.any (·.1)), .int .i64 (b.srcs.length : Int), .int .i64 b.li, .int .i64 b.p, VS, VK, .int .i64 b.ck.aim, .int .i64 b.ck.rate, .bool b.ck.set, .bool b.ck.held, .int .i64 b.ck.at_, .int .i64 b.ck.shown, .string ⟨b.out.toArray⟩] := by rw [hX9]; exact bn1
 have bA' : Blk w5 (w1.heap.size) 40 #[.int .i64 x, .int .i64 y] := by rw [hX9]; exact bn1
 have bT' : Blk w5 ((w1.heap.size + 1)) 70 #[.int .i64 aim, .int .i64 1000000, .bool b.ck.set, .bool b.ck.held, .int .i64 b.ck.at_, .int .i64 b.ck.shown] := by rw [hX9]; exact (by have h9 := (bT.set_ 0 (.int .i64 aim)).set_ 1 (.int .i64 1000000); simp only [lst, ls0, ls1] at h9; exact h9)
 have Zw5 : w4.heap.size ≤ w5.heap.size := by rw [hX9]; first | omega | (simp; done) | (simp [setAll_size]; done) | (simp <;> omega)
 rw [← hX9]
 clear hX9 hqXw4
 clear bP cP fP lP eP kP; have bP := bP'; clear bP'
 clear bA cA fA lA eA kA; have bA := bA'; clear bA'
 clear bT cT fT lT eT kT; have bT := bT'; clear bT'
 have hqXw5 := hqX; clear hqX
 obtain ⟨cP, fP, lP, eP, kP⟩ := Yf bP
 obtain ⟨cA, fA, lA, eA, kA⟩ := Yf bA
 obtain ⟨cT, fT, lT, eT, kT⟩ := Yf bT
 go_wp2_with fail
 refine (RR.out _).mono ?_
 rintro e v1 ⟨rfl, hb⟩
 have hq : Past [] _ v1 := Past.below hb
 have hq0 : Past [] _ v1 := Past.below hb
 clear hb
 have Kv1 : Past [] w v1 := Past.trans pa1 hq
 have Zv1 : w5.heap.size ≤ v1.heap.size := Nat.le_trans (by first | exact Nat.le_refl _ | omega | (simp <;> omega)) hq.1
 have bP' : Blk v1 (g) 100 #[.bool b.begun, .bool (b.srcs.any (·.1)), .int .i64 (b.srcs.length : Int), .int .i64 b.li, .int .i64 b.p, VS, VK, .int .i64 b.ck.aim, .int .i64 b.ck.rate, .bool b.ck.set, .bool b.ck.held, .int .i64 b.ck.at_, .int .i64 b.ck.shown, .string ⟨b.out.toArray⟩] := hq0.blk (bn1) Y7
 have bA' : Blk v1 (w1.heap.size) 40 #[.int .i64 x, .int .i64 y] := hq0.blk (bn1) Y7
 have bT' : Blk v1 ((w1.heap.size + 1)) 70 #[.int .i64 aim, .int .i64 1000000, .bool b.ck.set, .bool b.ck.held, .int .i64 b.ck.at_, .int .i64 b.ck.shown] := hq0.blk (bn1) Y7
 clear hq hqXw5
 clear bP cP fP lP eP kP; have bP := bP'; clear bP'
 clear bA cA fA lA eA kA; have bA := bA'; clear bA'
 clear bT cT fT lT eT kT; have bT := bT'; clear bT'
 obtain ⟨cP, fP, lP, eP, kP⟩ := Yf bP
 obtain ⟨cA, fA, lA, eA, kA⟩ := Yf bA
 obtain ⟨cT, fT, lT, eT, kT⟩ := Yf bT
 clear hq0
 go_upto_region 7 with fail
 obtain ⟨w7, hX9⟩ : ∃ x9 : World, x9 = ((((((v1.setCell ⟨w1.heap.size + 1, 0, none⟩ (.int .i64 n0)).setCell ⟨w1.heap.size + 1, 1, none⟩ (.int .i64 n1)).setCell ⟨w1.heap.size + 1, 2, none⟩ (.bool n2)).setCell ⟨w1.heap.size + 1, 3, none⟩ (.bool n3)).setCell ⟨w1.heap.size + 1, 4, none⟩ (.int .i64 n4)).setCell ⟨w1.heap.size + 1, 5, none⟩ (.int .i64 n5)) := ⟨_, rfl⟩
 have hqX : Past [] w w7 := by rw [hX9]; exact pa1
 have bP' : Blk w7 (g) 100 #[.bool b.begun, .bool (b.srcs.any (·.1)), .int .i64 (b.srcs.length : Int), .int .i64 b.li, .int .i64 b.p, VS, VK, .int .i64 b.ck.aim, .int .i64 b.ck.rate, .bool b.ck.set, .bool b.ck.held, .int .i64 b.ck.at_, .int .i64 b.ck.shown, .string ⟨b.out.toArray⟩] := by rw [hX9]; exact bn1
 have bA' : Blk w7 (w1.heap.size) 40 #[.int .i64 x, .int .i64 y] := by rw [hX9]; exact bn1
 have bT' : Blk w7 ((w1.heap.size + 1)) 70 #[.int .i64 n0, .int .i64 n1, .bool n2, .bool n3, .int .i64 n4, .int .i64 n5] := by rw [hX9]; exact (by have h9 := ((((((bT.set_ 0 (.int .i64 n0)).set_ 1 (.int .i64 n1)).set_ 2 (.bool n2)).set_ 3 (.bool n3)).set_ 4 (.int .i64 n4)).set_ 5 (.int .i64 n5)); simp only [lst, ls0, ls1] at h9; exact h9)
 have Zw7 : v1.heap.size ≤ w7.heap.size := by rw [hX9]; first | omega | (simp; done) | (simp [setAll_size]; done) | (simp <;> omega)
 rw [← hX9]
 clear hX9 Kv1
 clear bP cP fP lP eP kP; have bP := bP'; clear bP'
 clear bA cA fA lA eA kA; have bA := bA'; clear bA'
 clear bT cT fT lT eT kT; have bT := bT'; clear bT'
 have hqXw7 := hqX; clear hqX
 obtain ⟨cP, fP, lP, eP, kP⟩ := Yf bP
 obtain ⟨cA, fA, lA, eA, kA⟩ := Yf bA
 obtain ⟨cT, fT, lT, eT, kT⟩ := Yf bT
 have hKB := Past.toBelow hqXw7
 have H7 := Yh (HH.out.below hKB); have K7 := Yh hKB
 clear hKB RR RM
 by_cases h9 : e9 = 0
 rotate_left 1
 ·have g1 : (e9 == 0) = false := by simpa using h9
  have g2 : (e9 != 0) = true := by simpa using h9
  go_wp2_with fail
  refine (rfailed_any B g b e9 _ (H7.out.below bl0) HEE.out hl).mono ?_
  rintro e w8 ⟨rfl, h3, hT3⟩
  go_wp2
  go_ret
  rw [HR1.out h9]
  exact ⟨rfl, h3, (PastT.below (Yc (show Below w7.heap.size w7 _ from bl0) K7.out)).trans hT3⟩
 subst h9
 obtain ⟨hs5, hs6⟩ := HSH.out rfl
 (try dsimp only at hs5 hs6)
 obtain ⟨li, hli⟩ : ∃ li, itoa n5 = li := ⟨_, rfl⟩
 have hll : li.length ≤ 21 := by rw [← hli]; exact itoa_length_le n5 hs5.1 hs5.2
 have RI := Yh (fun W => hli ▸ r43dig_any n5 hs5 hs6 W)
 have HLI := Yh hli; clear hli
 go_upto_region 10 with fail
 obtain ⟨w8, hw8⟩ : ∃ x9 : World, x9 = ((((((w7.setCell ⟨g, 7, none⟩ (.int .i64 n0)).setCell ⟨g, 8, none⟩ (.int .i64 n1)).setCell ⟨g, 9, none⟩ (.bool n2)).setCell ⟨g, 10, none⟩ (.bool n3)).setCell ⟨g, 11, none⟩ (.int .i64 n4)).setCell ⟨g, 12, none⟩ (.int .i64 n5)) := ⟨_, rfl⟩
 have bB : Blk w8 g 100 #[.bool b.begun, .bool (b.srcs.any (·.1)), .int .i64 (b.srcs.length : Int), .int .i64 b.li, .int .i64 b.p, VS, VK, .int .i64 n0, .int .i64 n1, .bool n2, .bool n3, .int .i64 n4, .int .i64 n5, .string ⟨b.out.toArray⟩] := by rw [hw8]; have h9 := ((((((bP.set_ 7 (.int .i64 n0)).set_ 8 (.int .i64 n1)).set_ 9 (.bool n2)).set_ 10 (.bool n3)).set_ 11 (.int .i64 n4)).set_ 12 (.int .i64 n5)); simp only [lst, ls0, ls1] at h9; exact h9
 have hP8 : Past [g] w7 w8 := by rw [hw8]; exact (by (repeat' (first | (with_reducible exact Past.refl _ _) | (with_reducible refine' Past.setIn ?_ ?_ _; rotate_left 1; (focus (simp; done))))))
 have bT8 := hP8.blk bT Y7
 rw [← hw8]
 have bP7 := bP
 clear hw8 bP cP fP lP eP kP bT cT fT lT eT kT
 obtain ⟨gT, hgT⟩ : ∃ q, w1.heap.size + 1 = q := ⟨_, rfl⟩
 simp only [hgT] at bT8 ⊢
 have hgT2 : gT ≠ g := by omega
 obtain ⟨O, hO⟩ : ∃ O, b.out = O := ⟨_, rfl⟩
 rw [hO] at hl
 have HO := Yh hO
 simp only [hO] at bB
 clear hO
 obtain ⟨A1, hA1⟩ : ∃ M, [99, 108, 111, 99, 107, 32] ++ li = M := ⟨_, rfl⟩
 have nA1 : A1.length ≤ 30 := by rw [← hA1]; simp; omega
 have HA1 := Yh hA1; clear hA1
 cases n3 with
 | true =>
  obtain ⟨A2, hA2⟩ : ∃ M, A1 ++ [32, 104, 101, 108, 100, 10] = M := ⟨_, rfl⟩
  have nA2 : A2.length ≤ 40 := by rw [← hA2]; simp; omega
  have HA2 := Yh hA2; clear hA2
  obtain ⟨O2, hO2⟩ : ∃ M, O ++ A2 = M := ⟨_, rfl⟩
  have HO2 := Yh hO2; clear hO2
  have cT8 := bT8.cell; have lT8 := bT8.lt
  go_upto_region 13 with fail
  clear cT8 lT8
  refine' wp_region_calm Yr (fun n _ w' => Past [g] w8 w' ∧ (n = 0 → Blk w' g 100 #[.bool b.begun, .bool (b.srcs.any (·.1)), .int .i64 (b.srcs.length : Int), .int .i64 b.li, .int .i64 b.p, VS, VK, .int .i64 n0, .int .i64 n1, .bool n2, .bool true, .int .i64 n4, .int .i64 n5, .string ⟨O.toArray⟩]) ∧ (n = 1 → Blk w' g 100 #[.bool b.begun, .bool (b.srcs.any (·.1)), .int .i64 (b.srcs.length : Int), .int .i64 b.li, .int .i64 b.p, VS, VK, .int .i64 n0, .int .i64 n1, .bool n2, .bool true, .int .i64 n4, .int .i64 n5, .string ⟨O2.toArray⟩]) ∧ Blk w' (gT) 70 #[.int .i64 n0, .int .i64 n1, .bool n2, .bool true, .int .i64 n4, .int .i64 n5]) (fun a b => Past [g] a b) [Is _, Is _, Is _, Is _, Is _, Is _, Is _, (Is (.string ⟨A1.toArray⟩)), Is _, (Is (.string ⟨A2.toArray⟩)), (Is (.string ⟨O2.toArray⟩)), Is _, Is _, (fun _ _ _ => True)] [[], [0], [1], [2], [], [4], [5], [6], [], [7, 8], [3, 9], [0], [11], [12, 10]] [13] [] rfl (calmB_of Yr) Yp ?_ (Y1 (Y1 (Y1 (Y1 (Y1 (Y1 (Y1 (Y1 (Y1 (Y1 (Y1 (Y1 (Y1 (Y0 Yn)))))))))))))) ?_ ?_
  ·intro _
   exact ⟨(Past.refl _ _).drew, (fun _ => (bB.drew)), Ye, (bT8.drew)⟩
  rotate_left 10
  ·skip
   iterate 3 refine zq0 ?_
   refine zq1 (fun _ _ _ _ hn2 ⟨_, h0, _, mT8⟩ => have hB := h0 (Nat.le_zero.1 (hn2 0 13 rfl Yr)); Ya hB (Ya (Yq hB) (Yq mT8))) ?_
   refine zq0 ?_
   refine zq1 (fun _ _ _ _ hn2 ⟨_, h0, _, mT8⟩ => have hB := h0 (Nat.le_zero.1 (hn2 0 13 rfl Yr)); Ya hB (Ya (Yq hB) (Yq mT8))) ?_
   refine Yz (fun u wq n hn hn2 hC hk K hK => ?_) ?_
   ·obtain ⟨hP, h0, h1, mT8⟩ := hC
    simp only [calmKnown, lg0, lg1, and_true, Is] at hk
    have h5 := hk; clear hk
    simp only [h5] at hK ⊢
    have H5 := Yh h5; clear h5
    refine calm_op (by rfl) ?_
    go_simp
    refine (RI.out _).mono ?_
    rintro e w9 ⟨rfl, hbl⟩
    exact hK _ _ _ rfl ⟨hP.call hbl, (fun h => Yk hbl (h0 h)), (fun h => Yk hbl (h1 h)), Yk hbl mT8⟩ (Past.below hbl) rfl
   refine Yz (fun u wq n hn hn2 hC hk K hK => ?_) ?_
   ·obtain ⟨hP, h0, h1, mT8⟩ := hC
    simp only [calmKnown, lg0, lg1, and_true, Is] at hk
    have h6 := hk; clear hk
    simp only [h6] at hK ⊢
    have H6 := Yh h6; clear h6
    have ea : ({ data := [99, 108, 111, 99, 107, 32].toArray } : ByteArray) ++ { data := li.toArray } = { data := A1.toArray } := by rw [← HA1.out]; simp [ByteArray.mk_append_mk]
    go_simp
    (try simp only [ea])
    (try simp only [HA1.out])
    rw [if_neg Yo, Oper.upon_value]
    exact hK _ _ _ rfl ⟨hP, h0, h1, mT8⟩ (Past.refl _ _) rfl
   refine zq0 ?_
   refine Yz (fun u wq n hn hn2 hC hk K hK => ?_) ?_
   ·obtain ⟨hP, h0, h1, mT8⟩ := hC
    simp only [calmKnown, lg0, lg1, and_true, Is] at hk
    obtain ⟨h7, h8⟩ := hk
    simp only [h7, h8] at hK ⊢
    have H7 := Yh h7; clear h7; have H8 := Yh h8; clear h8
    have ea : ({ data := A1.toArray } : ByteArray) ++ { data := [32, 104, 101, 108, 100, 10].toArray } = { data := A2.toArray } := by rw [← HA2.out]; simp [ByteArray.mk_append_mk]
    go_simp
    (try simp only [ea])
    (try simp only [HA2.out])
    rw [if_neg Yo, Oper.upon_value]
    exact hK _ _ _ rfl ⟨hP, h0, h1, mT8⟩ (Past.refl _ _) rfl
   refine Yz (fun u wq n hn hn2 hC hk K hK => ?_) ?_
   ·obtain ⟨hP, h0, h1, mT8⟩ := hC
    simp only [calmKnown, lg0, lg1, and_true, Is] at hk
    obtain ⟨h3, h9⟩ := hk
    simp only [h3, h9] at hK ⊢
    have H3 := Yh h3; clear h3; have H9 := Yh h9; clear h9
    have ea : ({ data := O.toArray } : ByteArray) ++ { data := A2.toArray } = { data := O2.toArray } := by rw [← HO2.out]; simp [ByteArray.mk_append_mk]
    go_simp
    (try simp only [ea])
    (try simp only [HO2.out])
    rw [if_neg Yo, Oper.upon_value]
    exact hK _ _ _ rfl ⟨hP, h0, h1, mT8⟩ (Past.refl _ _) rfl
   iterate 2 refine zq0 ?_
   refine Yz (fun u wq n hn hn2 hC hk K hK => ?_) ?_
   ·obtain ⟨hP, h0, h1, mT8⟩ := hC
    simp only [calmKnown, lg0, lg1, and_true, Is] at hk
    obtain ⟨h12, h10⟩ := hk
    simp only [h12, h10] at hK ⊢
    have H12 := Yh h12; clear h12; have H10 := Yh h10; clear h10
    obtain rfl := hn 0 rfl
    have hB := h0 rfl
    have cB := hB.cell; have lB := hB.lt; have fB := hB.frozen
    have hB2 := hB.set_ 13 (.string ⟨O2.toArray⟩)
    try unfold rbC at cB
    try unfold rbC at hB2
    (try simp only [lst, ls0, ls1] at hB2)
    go_simp
    exact hK _ undef _ rfl ⟨hP.trans (Past.set Ys _), Ye, (fun _ => (by exact hB2)), mT8.setO Y7 _⟩ (Past.set Ys _) trivial
   exact Yw
  ·intro u w9 hC hF
   obtain ⟨hP, -, h1, mT8⟩ := hC
   have hB := h1 rfl
   clear h1 hF
   obtain ⟨hb9, hT9⟩ := H7.out.out (b' := b.shows ⟨n0, n1, n2, true, n4, n5⟩) (hP8.trans hP) rfl (fun VS' VK' hB' => by
    unfold Blk at hB' bP7
    rw [bP7] at hB'
    injection hB' with hB'
    injection hB' with hB' _ _
    have e1 : VS = VS' := by have h9 := congrArg (fun a => a[5]?) hB'; simpa [rbC] using h9
    have e2 : VK = VK' := by have h9 := congrArg (fun a => a[6]?) hB'; simpa [rbC] using h9
    subst e1; subst e2
    have e4 : O ++ sayL (wClock ++ li ++ wHeld) [] = O2 := by rw [← HO2.out, ← HA2.out, ← HA1.out]; simp [sayL, wClock, wHeld]
    have e3 : rbC (b.shows ⟨n0, n1, n2, true, n4, n5⟩) VS VK = #[.bool b.begun, .bool (b.srcs.any (·.1)), .int .i64 (b.srcs.length : Int), .int .i64 b.li, .int .i64 b.p, VS, VK, .int .i64 n0, .int .i64 n1, .bool n2, .bool true, .int .i64 n4, .int .i64 n5, .string ⟨O2.toArray⟩] := by
     show rbC (Bn.say { b with ck := ⟨n0, n1, n2, true, n4, n5⟩ } (wClock ++ itoa n5 ++ wHeld) []) VS VK = _
     unfold rbC Bn.say
     dsimp only
     rw [HLI.out, HO.out, e4]
    rw [e3]; exact hB)
   have H9 := Yh (Ya hb9 hT9)
   clear hb9 hT9 hP hB bB bP7 hP8
   go_wp2
   go_ret
   rw [HR0.out (by trivial)]
   exact ⟨rfl, H9.out.1, (PastT.below K7.out).trans H9.out.2⟩

 | false =>
  obtain ⟨A2, hA2⟩ : ∃ M, A1 ++ [32, 102, 114, 101, 101, 10] = M := ⟨_, rfl⟩
  have nA2 : A2.length ≤ 40 := by rw [← hA2]; simp; omega
  have HA2 := Yh hA2; clear hA2
  obtain ⟨O2, hO2⟩ : ∃ M, O ++ A2 = M := ⟨_, rfl⟩
  have HO2 := Yh hO2; clear hO2
  have cT8 := bT8.cell; have lT8 := bT8.lt
  go_upto_region 13 with fail
  clear cT8 lT8
  refine' wp_region_calm Yr (fun n _ w' => Past [g] w8 w' ∧ (n = 0 → Blk w' g 100 #[.bool b.begun, .bool (b.srcs.any (·.1)), .int .i64 (b.srcs.length : Int), .int .i64 b.li, .int .i64 b.p, VS, VK, .int .i64 n0, .int .i64 n1, .bool n2, .bool false, .int .i64 n4, .int .i64 n5, .string ⟨O.toArray⟩]) ∧ (n = 1 → Blk w' g 100 #[.bool b.begun, .bool (b.srcs.any (·.1)), .int .i64 (b.srcs.length : Int), .int .i64 b.li, .int .i64 b.p, VS, VK, .int .i64 n0, .int .i64 n1, .bool n2, .bool false, .int .i64 n4, .int .i64 n5, .string ⟨O2.toArray⟩]) ∧ Blk w' (gT) 70 #[.int .i64 n0, .int .i64 n1, .bool n2, .bool false, .int .i64 n4, .int .i64 n5]) (fun a b => Past [g] a b) [Is _, Is _, Is _, Is _, Is _, Is _, Is _, (Is (.string ⟨A1.toArray⟩)), Is _, (Is (.string ⟨A2.toArray⟩)), (Is (.string ⟨O2.toArray⟩)), Is _, Is _, (fun _ _ _ => True)] [[], [0], [1], [2], [], [4], [5], [6], [], [7, 8], [3, 9], [0], [11], [12, 10]] [13] [] rfl (calmB_of Yr) Yp ?_ (Y1 (Y1 (Y1 (Y1 (Y1 (Y1 (Y1 (Y1 (Y1 (Y1 (Y1 (Y1 (Y1 (Y0 Yn)))))))))))))) ?_ ?_
  ·intro _
   exact ⟨(Past.refl _ _).drew, (fun _ => (bB.drew)), Ye, (bT8.drew)⟩
  rotate_left 10
  ·skip
   iterate 3 refine zq0 ?_
   refine zq1 (fun _ _ _ _ hn2 ⟨_, h0, _, mT8⟩ => have hB := h0 (Nat.le_zero.1 (hn2 0 13 rfl Yr)); Ya hB (Ya (Yq hB) (Yq mT8))) ?_
   refine zq0 ?_
   refine zq1 (fun _ _ _ _ hn2 ⟨_, h0, _, mT8⟩ => have hB := h0 (Nat.le_zero.1 (hn2 0 13 rfl Yr)); Ya hB (Ya (Yq hB) (Yq mT8))) ?_
   refine Yz (fun u wq n hn hn2 hC hk K hK => ?_) ?_
   ·obtain ⟨hP, h0, h1, mT8⟩ := hC
    simp only [calmKnown, lg0, lg1, and_true, Is] at hk
    have h5 := hk; clear hk
    simp only [h5] at hK ⊢
    have H5 := Yh h5; clear h5
    refine calm_op (by rfl) ?_
    go_simp
    refine (RI.out _).mono ?_
    rintro e w9 ⟨rfl, hbl⟩
    exact hK _ _ _ rfl ⟨hP.call hbl, (fun h => Yk hbl (h0 h)), (fun h => Yk hbl (h1 h)), Yk hbl mT8⟩ (Past.below hbl) rfl
   refine Yz (fun u wq n hn hn2 hC hk K hK => ?_) ?_
   ·obtain ⟨hP, h0, h1, mT8⟩ := hC
    simp only [calmKnown, lg0, lg1, and_true, Is] at hk
    have h6 := hk; clear hk
    simp only [h6] at hK ⊢
    have H6 := Yh h6; clear h6
    have ea : ({ data := [99, 108, 111, 99, 107, 32].toArray } : ByteArray) ++ { data := li.toArray } = { data := A1.toArray } := by rw [← HA1.out]; simp [ByteArray.mk_append_mk]
    go_simp
    (try simp only [ea])
    (try simp only [HA1.out])
    rw [if_neg Yo, Oper.upon_value]
    exact hK _ _ _ rfl ⟨hP, h0, h1, mT8⟩ (Past.refl _ _) rfl
   refine zq0 ?_
   refine Yz (fun u wq n hn hn2 hC hk K hK => ?_) ?_
   ·obtain ⟨hP, h0, h1, mT8⟩ := hC
    simp only [calmKnown, lg0, lg1, and_true, Is] at hk
    obtain ⟨h7, h8⟩ := hk
    simp only [h7, h8] at hK ⊢
    have H7 := Yh h7; clear h7; have H8 := Yh h8; clear h8
    have ea : ({ data := A1.toArray } : ByteArray) ++ { data := [32, 102, 114, 101, 101, 10].toArray } = { data := A2.toArray } := by rw [← HA2.out]; simp [ByteArray.mk_append_mk]
    go_simp
    (try simp only [ea])
    (try simp only [HA2.out])
    rw [if_neg Yo, Oper.upon_value]
    exact hK _ _ _ rfl ⟨hP, h0, h1, mT8⟩ (Past.refl _ _) rfl
   refine Yz (fun u wq n hn hn2 hC hk K hK => ?_) ?_
   ·obtain ⟨hP, h0, h1, mT8⟩ := hC
    simp only [calmKnown, lg0, lg1, and_true, Is] at hk
    obtain ⟨h3, h9⟩ := hk
    simp only [h3, h9] at hK ⊢
    have H3 := Yh h3; clear h3; have H9 := Yh h9; clear h9
    have ea : ({ data := O.toArray } : ByteArray) ++ { data := A2.toArray } = { data := O2.toArray } := by rw [← HO2.out]; simp [ByteArray.mk_append_mk]
    go_simp
    (try simp only [ea])
    (try simp only [HO2.out])
    rw [if_neg Yo, Oper.upon_value]
    exact hK _ _ _ rfl ⟨hP, h0, h1, mT8⟩ (Past.refl _ _) rfl
   iterate 2 refine zq0 ?_
   refine Yz (fun u wq n hn hn2 hC hk K hK => ?_) ?_
   ·obtain ⟨hP, h0, h1, mT8⟩ := hC
    simp only [calmKnown, lg0, lg1, and_true, Is] at hk
    obtain ⟨h12, h10⟩ := hk
    simp only [h12, h10] at hK ⊢
    have H12 := Yh h12; clear h12; have H10 := Yh h10; clear h10
    obtain rfl := hn 0 rfl
    have hB := h0 rfl
    have cB := hB.cell; have lB := hB.lt; have fB := hB.frozen
    have hB2 := hB.set_ 13 (.string ⟨O2.toArray⟩)
    try unfold rbC at cB
    try unfold rbC at hB2
    (try simp only [lst, ls0, ls1] at hB2)
    go_simp
    exact hK _ undef _ rfl ⟨hP.trans (Past.set Ys _), Ye, (fun _ => (by exact hB2)), mT8.setO Y7 _⟩ (Past.set Ys _) trivial
   exact Yw
  ·intro u w9 hC hF
   obtain ⟨hP, -, h1, mT8⟩ := hC
   have hB := h1 rfl
   clear h1 hF
   obtain ⟨hb9, hT9⟩ := H7.out.out (b' := b.shows ⟨n0, n1, n2, false, n4, n5⟩) (hP8.trans hP) rfl (fun VS' VK' hB' => by
    unfold Blk at hB' bP7
    rw [bP7] at hB'
    injection hB' with hB'
    injection hB' with hB' _ _
    have e1 : VS = VS' := by have h9 := congrArg (fun a => a[5]?) hB'; simpa [rbC] using h9
    have e2 : VK = VK' := by have h9 := congrArg (fun a => a[6]?) hB'; simpa [rbC] using h9
    subst e1; subst e2
    have e4 : O ++ sayL (wClock ++ li ++ wFree) [] = O2 := by rw [← HO2.out, ← HA2.out, ← HA1.out]; simp [sayL, wClock, wFree]
    have e3 : rbC (b.shows ⟨n0, n1, n2, false, n4, n5⟩) VS VK = #[.bool b.begun, .bool (b.srcs.any (·.1)), .int .i64 (b.srcs.length : Int), .int .i64 b.li, .int .i64 b.p, VS, VK, .int .i64 n0, .int .i64 n1, .bool n2, .bool false, .int .i64 n4, .int .i64 n5, .string ⟨O2.toArray⟩] := by
     show rbC (Bn.say { b with ck := ⟨n0, n1, n2, false, n4, n5⟩ } (wClock ++ itoa n5 ++ wFree) []) VS VK = _
     unfold rbC Bn.say
     dsimp only
     rw [HLI.out, HO.out, e4]
    rw [e3]; exact hB)
   have H9 := Yh (Ya hb9 hT9)
   clear hb9 hT9 hP hB bB bP7 hP8
   go_wp2
   go_ret
   rw [HR0.out (by trivial)]
   exact ⟨rfl, H9.out.1, (PastT.below K7.out).trans H9.out.2⟩
end Go.Proofs.YtiinmhfolfgobaaGreatDoor
