/- The walk of CertifiedLearns. -/
import Derived.Test.YtlfkkfdolnkjfaaLawCert
import Derived.Test.YtlfkkfdolnkjfaaJ39
import Derived.Test.YtlfkkfdolnkjfaaTapeZ
import Derived.Test.YtlfkkfdolnkjfaaJ4
namespace Go.Proofs.Ytlfkkfdolnkjfaa
open Go.RowKit Go.Shelf Go.Sort
set_option linter.unusedSimpArgs false
set_option linter.unusedVariables false

theorem arr6 (cs : Array Value) (h : cs.size = 6) : ∃ a b c d e f, cs = #[a, b, c, d, e, f] := by
  obtain ⟨l⟩ := cs
  match l, h with
  | [a, b, c, d, e, f], _ => exact ⟨a, b, c, d, e, f, rfl⟩
/-- How the world may turn: blocks of what is known stay such blocks. -/
def RK6 (b : Nat) (w w' : World) : Prop := w.heap.size ≤ w'.heap.size ∧ ∀ k, k ≠ b → (∃ cs : Array Value, cs.size = 6 ∧ Blk w k 72 cs) → ∃ cs : Array Value, cs.size = 6 ∧ Blk w' k 72 cs
theorem RK6.refl (b : Nat) (w : World) : RK6 b w w := ⟨Nat.le_refl _, fun _ _ h => h⟩
theorem RK6.below {b : Nat} {w w' : World} (h : Below w.heap.size w w') : RK6 b w w' := ⟨h.size, fun k _ ⟨cs, h1, h2⟩ => ⟨cs, h1, h2.below h⟩⟩
theorem RK6.tap {b : Nat} {w w' : World} (h : w.grownBy w' (some b)) : RK6 b w w' := ⟨h.size, fun k hk ⟨cs, h1, h2⟩ => ⟨cs, h1, h2.tap h hk⟩⟩
def PtrK (b base : Nat) : List Value → Value → World → Prop := fun _ v w => ∃ g, v = .pointer (some ⟨g, 0, none⟩) ∧ base ≤ g ∧ g ≠ b ∧ ∃ cs : Array Value, cs.size = 6 ∧ Blk w g 72 cs
theorem keep_ptrK {b base : Nat} : ∀ d v w w', RK6 b w w' → PtrK b base d v w → PtrK b base d v w' := fun _ _ _ _ h ⟨g, e, h1, h2, h3⟩ => ⟨g, e, h1, h2, h.2 g h2 h3⟩
def LnRel (w : World) (b base g10 : Nat) (cs : Array Value) (m : Nat) (G : Nat) (v i : Value) (wr : World) : Prop := ∃ (q : Nat) (A : Option Addr) (c : Nat) (ks : List K6), q ≤ m ∧ G = m - q ∧ i = .int .i64 ((m - q : Nat) : Int) ∧ v = .slice A ks.length c ∧ ks.length = q ∧ RowK wr base (.slice A ks.length c) ks ∧ Blk wr g10 72 cs ∧ TapeAt wr b ∧ Below w.heap.size w wr ∧ base ≤ wr.heap.size
theorem eq_self6 (a b c d e f : Int) : True := trivial
set_option maxRecDepth 100000 in
set_option maxHeartbeats 8000000 in
theorem learns_walk (LA : Option Addr) (llen lcap : Nat) (ls : List Int) (at_ f : Int) (w : World) (k : IntsAt w LA llen ls) :
    Calls Try.prog 10 #[.slice LA llen lcap, .int .i64 at_, .int .i64 f] w (RB w (.bool true)) := by
  have HK := Lib.hid (show Kp w w from Below.refl _ _)
  have HLI := Lib.hid k; clear k
  obtain ⟨x0, x1, x2, x3, x4, x5, hx⟩ : ∃ x0 x1 x2 x3 x4 x5, mz ls 0 = ⟨x0, x1, x2, x3, x4, x5⟩ := ⟨_, _, _, _, _, _, rfl⟩
  have hcs : (mz ls 0).cs = #[.int .i64 x0, .int .i64 x1, .int .i64 x2, .int .i64 x3, .int .i64 x4, .int .i64 x5] := by rw [hx]; rfl
  have RM := Lib.hid (fun b W h => hcs ▸ made_z b 0 ls W h)
  clear hx hcs
  obtain ⟨sl, hsl⟩ : ∃ sl, zLo ls 6 100 = sl := ⟨_, rfl⟩
  obtain ⟨sh, hsh⟩ : ∃ sh, zHi ls 6 100 = sh := ⟨_, rfl⟩
  have RS := Lib.hid (fun b W (h : TapeZ W b ls 6) => hsh ▸ hsl ▸ tspan_z b 6 ls 100 W h (by omega) (by omega))
  clear hsl hsh
  obtain ⟨n, hn⟩ : ∃ n, at_ % 100 = n := ⟨_, rfl⟩
  have RW := Lib.hid (fun W => hn ▸ within_any at_ 100 W (by omega) (by omega))
  clear hn
  obtain ⟨n5, hn5⟩ : ∃ n5, f % 5 = n5 := ⟨_, rfl⟩
  have RW5 := Lib.hid (fun W => hn5 ▸ within_any f 5 W (by omega) (by omega))
  clear hn5
  obtain ⟨l0, l1, l2, l3, l4, l5, lb, le, hl⟩ : ∃ l0 l1 l2 l3 l4 l5 lb le, lrn x0 x1 x2 x3 x4 x5 n sl sh = ⟨l0, l1, l2, l3, l4, l5, lb, le⟩ := ⟨_, _, _, _, _, _, _, _, rfl⟩
  have hlv : (lrn x0 x1 x2 x3 x4 x5 n sl sh).V = .tuple #[.agg #[.int .i64 l0, .int .i64 l1, .int .i64 l2, .int .i64 l3, .int .i64 l4, .int .i64 l5], .bool lb, .int .i64 le] := by rw [hl]; rfl
  have RI := Lib.hid (fun W => hlv ▸ ilearn_any x0 x1 x2 x3 x4 x5 n sl sh W)
  have RR := Lib.hid (fun W => hlv ▸ rlearn_any x0 x1 x2 x3 x4 x5 n sl sh W)
  clear hl hlv
  go_enter Try.func10, Try.ntmps10
  go_wp2_with fail
  refine (new_z LA llen lcap ls _ HLI.out).mono ?_
  rintro e w1 ⟨rfl, ht1, hb1⟩
  have Z1 := hb1.size
  have T1 := ht1.lt
  replace HK := Lib.hid (HK.out.below hb1)
  clear hb1
  obtain ⟨b, hb⟩ : ∃ b, b = w.heap.size := ⟨_, rfl⟩
  have hbw : w.heap.size ≤ b := by omega
  rw [← hb] at ht1 T1 ⊢
  clear hb
  have HT := Lib.hid ht1; clear ht1
  go_upto_region 2 with fail
  go_cut [8] (fun v wx => ∃ g8, v = .pointer (some ⟨g8, 0, none⟩) ∧ b < g8 ∧ Blk wx g8 72 #[.int .i64 x0, .int .i64 x1, .int .i64 x2, .int .i64 x3, .int .i64 x4, .int .i64 x5] ∧ TapeZ wx b ls 6 ∧ Below w.heap.size w wx)
  case first =>
    go_wp2_with fail
    refine (RM.out b _ (HT.out.below (by (repeat' (first | (with_reducible exact Below.refl _ _) | (with_reducible refine Below.setCell ?_ ?_ _) | (with_reducible refine Below.alloc ?_ ?_ _) | (with_reducible refine Below.drew ?_) | (with_reducible refine below_drewN ?_ _))) <;> (first | omega | (simp <;> omega))))).mono ?_
    rintro e wy ⟨rfl, hty, hgy⟩
    have hKy : Below w.heap.size w wy := below_grown HK.out.b hgy hbw (by omega)
    have hby := hty.lt
    have hwy := hKy.size
    have HTY := Lib.hid hty; clear hty hgy
    go_wp2_with fail
    go_meet
    exact ⟨wy.heap.size, rfl, hby, (by first | exact Blk.new _ _ _ | exact (by (repeat' (first | ((with_reducible refine' Blk.newE ?_); first | rfl | (simp; done)) | (with_reducible refine' Blk.alloc ?_ _) | (with_reducible refine' Blk.drew ?_) | (with_reducible refine' Blk.drewN ?_ _) | (with_reducible refine' Blk.put ?_ ?_) | (with_reducible refine' Blk.far ?_ ?_ _) | exact rfl)) <;> (first | omega | (simp <;> omega)))), HTY.out.below (by (repeat' (first | (with_reducible exact Below.refl _ _) | (with_reducible refine Below.setCell ?_ ?_ _) | (with_reducible refine Below.alloc ?_ ?_ _) | (with_reducible refine Below.drew ?_) | (with_reducible refine below_drewN ?_ _))) <;> (first | omega | (simp <;> omega))), kept_call (by (repeat' (first | (with_reducible exact Below.refl _ _) | (with_reducible refine Below.setCell ?_ ?_ _) | (with_reducible refine Below.alloc ?_ ?_ _) | (with_reducible refine Below.drew ?_) | (with_reducible refine below_drewN ?_ _))) <;> (first | omega | (simp <;> omega))) hKy⟩
  case rest =>
    obtain ⟨g8, rfl, hg8, b8, ht2, KC⟩ := hcut
    have ZC := KC.size
    clear HT HK
    have HK := Lib.hid (show Kp w wc from KC); have HT := Lib.hid ht2; have HB8 := Lib.hid b8
    have l8 := b8.lt
    have T2 := ht2.lt
    clear KC ht2 b8
    obtain ⟨w2, rfl⟩ : ∃ x : World, x = wc := ⟨_, rfl⟩
    go_wp2_with fail
    refine (RW.out _).mono ?_
    rintro e wq ⟨rfl, rfl⟩
    go_wp2_with fail
    refine' wp_region_calm (by kernel_rfl) (fun n us w' => TapeZ w' b ls (if n = 0 then 6 else 8) ∧ Past [b] w2 w' ∧ (n = 2 → ∃ g, us[0]? = some (.pointer (some ⟨g, 0, none⟩)) ∧ w2.heap.size ≤ g ∧ Blk w' g 72 #[.int .i64 l0, .int .i64 l1, .int .i64 l2, .int .i64 l3, .int .i64 l4, .int .i64 l5])) (RK6 b) [(Is _), (Is _), (Is _), (Is _), (Is _), (Is _), (Is _), (Is _), (Is _), (PtrK b w2.heap.size), (fun _ _ _ => True), (Is _), (Is _)] [[], [], [], [2], [0, 1, 3], [4], [5], [5], [5], [], [6, 9], [7], [8]] [3, 10] [9] rfl (by kernel_rfl) (fun u => by (simp only [calmPut, Act.put, List.setIfInBounds_toArray, List.set_cons_zero, List.set_cons_succ, Nat.zero_add, Nat.reduceAdd]; rfl)) ?_ (calmKeep_cons keep_is' (calmKeep_cons keep_is' (calmKeep_cons keep_is' (calmKeep_cons keep_is' (calmKeep_cons keep_is' (calmKeep_cons keep_is' (calmKeep_cons keep_is' (calmKeep_cons keep_is' (calmKeep_cons keep_is' (calmKeep_cons keep_ptrK (calmKeep_cons keep_triv (calmKeep_cons keep_is' (calmKeep_cons keep_is' (calmKeep_nil)))))))))))))) ?_ ?_
    · intro _
      exact ⟨HT.out.drew, (Past.refl _ _).drew, fun h => absurd h (by decide)⟩
    rotate_left 11
    · skip
      refine calmSteps_cons (fun u wq n hn hn2 hC hk K hK => ?_) ?_
      · obtain ⟨hT, hP, h2⟩ := hC
        clear hk
        have hE := hP.blk HB8.out (by simp; omega)
        have cE := hE.cell; have lE := hE.lt
        go_simp
        exact hK _ _ _ rfl ⟨hT, hP, h2⟩ (RK6.refl _ _) rfl
      refine calmSteps_cons (fun u wq n hn hn2 hC hk K hK => ?_) ?_
      · obtain ⟨hT, hP, h2⟩ := hC
        clear hk
        go_simp
        exact hK _ _ _ rfl ⟨hT, hP, h2⟩ (RK6.refl _ _) rfl
      refine calmSteps_cons (fun u wq n hn hn2 hC hk K hK => ?_) ?_
      · obtain ⟨hT, hP, h2⟩ := hC
        clear hk
        go_simp
        exact hK _ _ _ rfl ⟨hT, hP, h2⟩ (RK6.refl _ _) rfl
      refine calmSteps_cons (fun u wq n hn hn2 hC hk K hK => ?_) ?_
      · obtain ⟨hT, hP, h2⟩ := hC
        simp only [calmKnown, List.getElem?_cons_zero, List.getElem?_cons_succ, and_true, Is, Pure, Option.some.injEq, List.getD_cons_zero, List.getD_cons_succ, List.map_cons, List.map_nil] at hk
        have h2 := hk; clear hk
        simp only [h2] at hK ⊢
        have H2 := Lib.hid h2; clear h2
        obtain rfl := hn 0 rfl
        have hT6 : TapeZ wq b ls 6 := hT
        clear hT h2
        go_wp2_with fail
        refine (RS.out b _ hT6).mono ?_
        rintro e w9 ⟨rfl, ht, hgr⟩
        exact hK _ _ _ rfl ⟨ht, hP.trans (Past.grown (X := [b]) hgr (by simp)), fun h => absurd h (by decide)⟩ (RK6.tap hgr) rfl
      refine calmSteps_cons (fun u wq n hn hn2 hC hk K hK => ?_) ?_
      · obtain ⟨hT, hP, h2⟩ := hC
        simp only [calmKnown, List.getElem?_cons_zero, List.getElem?_cons_succ, and_true, Is, Pure, Option.some.injEq, List.getD_cons_zero, List.getD_cons_succ, List.map_cons, List.map_nil] at hk
        obtain ⟨h0, h1, h3⟩ := hk
        simp only [h0, h1, h3] at hK ⊢
        have H0 := Lib.hid h0; clear h0; have H1 := Lib.hid h1; clear h1; have H3 := Lib.hid h3; clear h3
        have hn1 : n ≤ 1 := hn2 1 10 rfl (by kernel_rfl)
        go_wp2_with fail
        refine (RI.out _).mono ?_
        rintro e w9 ⟨rfl, hbl⟩
        exact hK _ _ _ rfl ⟨hT.below hbl, hP.trans (Past.below hbl), fun h => by exfalso; have h9 : n = 2 := h; omega⟩ (RK6.below hbl) rfl
      refine calmSteps_cons (fun u wq n hn hn2 hC hk K hK => ?_) ?_
      · obtain ⟨hT, hP, h2⟩ := hC
        simp only [calmKnown, List.getElem?_cons_zero, List.getElem?_cons_succ, and_true, Is, Pure, Option.some.injEq, List.getD_cons_zero, List.getD_cons_succ, List.map_cons, List.map_nil] at hk
        have h4 := hk; clear hk
        simp only [h4] at hK ⊢
        have H4 := Lib.hid h4; clear h4
        go_simp
        exact hK _ _ _ rfl ⟨hT, hP, h2⟩ (RK6.refl _ _) rfl
      refine calmSteps_cons (fun u wq n hn hn2 hC hk K hK => ?_) ?_
      · obtain ⟨hT, hP, h2⟩ := hC
        simp only [calmKnown, List.getElem?_cons_zero, List.getElem?_cons_succ, and_true, Is, Pure, Option.some.injEq, List.getD_cons_zero, List.getD_cons_succ, List.map_cons, List.map_nil] at hk
        have h5 := hk; clear hk
        simp only [h5] at hK ⊢
        have H5 := Lib.hid h5; clear h5
        go_simp
        exact hK _ _ _ rfl ⟨hT, hP, h2⟩ (RK6.refl _ _) rfl
      refine calmSteps_cons (fun u wq n hn hn2 hC hk K hK => ?_) ?_
      · obtain ⟨hT, hP, h2⟩ := hC
        simp only [calmKnown, List.getElem?_cons_zero, List.getElem?_cons_succ, and_true, Is, Pure, Option.some.injEq, List.getD_cons_zero, List.getD_cons_succ, List.map_cons, List.map_nil] at hk
        have h5 := hk; clear hk
        simp only [h5] at hK ⊢
        have H5 := Lib.hid h5; clear h5
        go_simp
        exact hK _ _ _ rfl ⟨hT, hP, h2⟩ (RK6.refl _ _) rfl
      refine calmSteps_cons (fun u wq n hn hn2 hC hk K hK => ?_) ?_
      · obtain ⟨hT, hP, h2⟩ := hC
        simp only [calmKnown, List.getElem?_cons_zero, List.getElem?_cons_succ, and_true, Is, Pure, Option.some.injEq, List.getD_cons_zero, List.getD_cons_succ, List.map_cons, List.map_nil] at hk
        have h5 := hk; clear hk
        simp only [h5] at hK ⊢
        have H5 := Lib.hid h5; clear h5
        go_simp
        exact hK _ _ _ rfl ⟨hT, hP, h2⟩ (RK6.refl _ _) rfl
      refine calmSteps_cons (fun u wq n hn hn2 hC hk K hK => ?_) ?_
      · obtain ⟨hT, hP, h2⟩ := hC
        clear hk
        have hn1 : n ≤ 1 := hn2 1 10 rfl (by kernel_rfl)
        have hsz := hP.1
        go_simp
        exact hK _ _ _ rfl ⟨hT.alloc _, hP.trans (Past.alloc _ _ _), fun h => by exfalso; have h9 : n = 2 := h; omega⟩ (RK6.below ((Below.refl _ _).alloc (Nat.le_refl _) _)) ⟨wq.heap.size, rfl, hsz, by omega, #[.int .i64 0, .int .i64 0, .int .i64 0, .int .i64 0, .int .i64 0, .int .i64 0], rfl, Blk.new _ _ _⟩
      refine calmSteps_cons (fun u wq n hn hn2 hC hk K hK => ?_) ?_
      · obtain ⟨hT, hP, h2⟩ := hC
        simp only [calmKnown, List.getElem?_cons_zero, List.getElem?_cons_succ, and_true, Is, Pure, Option.some.injEq, List.getD_cons_zero, List.getD_cons_succ, List.map_cons, List.map_nil] at hk
        obtain ⟨h6, ⟨g, h9, gb, gn, cs, hcs, hB⟩⟩ := hk
        simp only [h6, h9] at hK ⊢
        have H6 := Lib.hid h6; clear h6; have H9 := Lib.hid h9; clear h9
        obtain rfl := hn 1 rfl
        obtain ⟨c0, c1, c2, c3, c4, c5, rfl⟩ := arr6 cs hcs
        have cB := hB.cell; have fB := hB.frozen; have lB := hB.lt
        have hT8 : TapeZ wq b ls 8 := hT
        clear hT h2
        go_simp
        have hB2 := setAll_blk [.int .i64 l0, .int .i64 l1, .int .i64 l2, .int .i64 l3, .int .i64 l4, .int .i64 l5] 0 wq _ hB
        simp only [setArr, List.setIfInBounds_toArray, List.set_cons_zero, List.set_cons_succ, Nat.zero_add, Nat.reduceAdd] at hB2
        have gT : b < g := by omega
        have hT9 : TapeZ (setAll wq g 0 [.int .i64 l0, .int .i64 l1, .int .i64 l2, .int .i64 l3, .int .i64 l4, .int .i64 l5]) b ls 8 := hT8.kept (fun q hq => setAll_other (by omega) _ _ _)
        have hP9 : Past [b] w2 (setAll wq g 0 [.int .i64 l0, .int .i64 l1, .int .i64 l2, .int .i64 l3, .int .i64 l4, .int .i64 l5]) := setAll_past gb _ 0 wq hP
        have hR9 : RK6 b wq (setAll wq g 0 [.int .i64 l0, .int .i64 l1, .int .i64 l2, .int .i64 l3, .int .i64 l4, .int .i64 l5]) := ⟨by rw [setAll_size]; exact Nat.le_refl _, fun q hq ⟨cs, h1, hb9⟩ => by by_cases e : q = g; (subst e; exact ⟨_, rfl, hB2⟩); (exact ⟨cs, h1, setAll_far e _ 0 wq hb9⟩)⟩
        exact hK _ undef (setAll wq g 0 [.int .i64 l0, .int .i64 l1, .int .i64 l2, .int .i64 l3, .int .i64 l4, .int .i64 l5]) rfl ⟨hT9, hP9, fun _ => ⟨g, (by first | rfl | (show some (u 9) = some _; rw [H9.out])), gb, hB2⟩⟩ hR9 trivial
      refine calmSteps_cons (fun u wq n hn hn2 hC hk K hK => ?_) ?_
      · obtain ⟨hT, hP, h2⟩ := hC
        simp only [calmKnown, List.getElem?_cons_zero, List.getElem?_cons_succ, and_true, Is, Pure, Option.some.injEq, List.getD_cons_zero, List.getD_cons_succ, List.map_cons, List.map_nil] at hk
        have h7 := hk; clear hk
        simp only [h7] at hK ⊢
        have H7 := Lib.hid h7; clear h7
        go_simp
        exact hK _ _ _ rfl ⟨hT, hP, h2⟩ (RK6.refl _ _) rfl
      refine calmSteps_cons (fun u wq n hn hn2 hC hk K hK => ?_) ?_
      · obtain ⟨hT, hP, h2⟩ := hC
        simp only [calmKnown, List.getElem?_cons_zero, List.getElem?_cons_succ, and_true, Is, Pure, Option.some.injEq, List.getD_cons_zero, List.getD_cons_succ, List.map_cons, List.map_nil] at hk
        have h8 := hk; clear hk
        simp only [h8] at hK ⊢
        have H8 := Lib.hid h8; clear h8
        go_simp
        exact hK _ _ _ rfl ⟨hT, hP, h2⟩ (RK6.refl _ _) rfl
      exact calmSteps_nil
    · intro u w3 hC hF
      obtain ⟨hT, hP, h2⟩ := hC
      obtain ⟨g10, hu9, hg10, hB10⟩ := h2 rfl
      have hu9 : u 9 = .pointer (some ⟨g10, 0, none⟩) := Option.some.inj (show some (u 9) = some _ from hu9)
      simp only [calmFacts, Is, and_true] at hF
      obtain ⟨f0, f1, f2, f3, f4, f5, f6, f7, f8, -, -, f11, f12⟩ := hF
      simp only [hu9, f0, f1, f2, f3, f4, f5, f6, f7, f8, f11, f12]
      clear f0 f1 f2 f3 f4 f5 f6 f7 f8 f11 f12 hu9 h2
      have hgr3 := hP.tapg
      have Z3 := hP.1
      replace HK := Lib.hid (HK.out.tap hgr3 hbw)
      have hT8 : TapeAt w3 b := hT.at_
      have T3 := hT8.lt
      have l10 := hB10.lt
      have hbg10 : b < g10 := by omega
      clear HT HB8 hP hT hgr3
      have HT := Lib.hid hT8; have HG := Lib.hid hB10; clear hT8 hB10
      go_wp2_with fail
      refine (int_any b 9 _ (HT.out.below (by (repeat' (first | (with_reducible exact Below.refl _ _) | (with_reducible refine Below.setCell ?_ ?_ _) | (with_reducible refine Below.alloc ?_ ?_ _) | (with_reducible refine Below.drew ?_) | (with_reducible refine below_drewN ?_ _))) <;> (first | omega | (simp <;> omega)))) (by omega) (by omega)).mono ?_
      rintro e w4 ⟨mv, rfl, mv0, mv1, ht4, hg4⟩
      have Z4 : w3.heap.size ≤ w4.heap.size := hg4.size
      replace HK := Lib.hid ((HK.out.below (by (repeat' (first | (with_reducible exact Below.refl _ _) | (with_reducible refine Below.setCell ?_ ?_ _) | (with_reducible refine Below.alloc ?_ ?_ _) | (with_reducible refine Below.drew ?_) | (with_reducible refine below_drewN ?_ _))) <;> (first | omega | (simp <;> omega)))).tap hg4 hbw)
      replace HG := Lib.hid ((HG.out.below (by (repeat' (first | (with_reducible exact Below.refl _ _) | (with_reducible refine Below.setCell ?_ ?_ _) | (with_reducible refine Below.alloc ?_ ?_ _) | (with_reducible refine Below.drew ?_) | (with_reducible refine below_drewN ?_ _))) <;> (first | omega | (simp <;> omega)))).tap hg4 (by omega))
      replace HT := Lib.hid ht4
      clear ht4 hg4
      obtain ⟨m, rfl⟩ : ∃ m : Nat, mv = (m : Int) := ⟨mv.toNat, by omega⟩
      have hm9 : m < 9 := by omega
      clear mv0 mv1
      go_wp2
      obtain ⟨base, hbase⟩ : ∃ base, base = w4.heap.size := ⟨_, rfl⟩
      have hb1 : b < base := by omega
      have hb2 : g10 < base := by omega
      have hb3 : base ≤ w4.heap.size := by omega
      have hb4 : w.heap.size ≤ base := by omega
      have HBASE := Lib.hid hbase; clear hbase
      go_loopg [13, 14] m (fun G v i wr => LnRel w b base g10 #[.int .i64 l0, .int .i64 l1, .int .i64 l2, .int .i64 l3, .int .i64 l4, .int .i64 l5] m G v i wr)
      case atStart => exact ⟨0, none, 0, [], by omega, by omega, by simp, rfl, rfl, RowK.nil, HG.out, HT.out, HK.out.b, hb3⟩
      case round =>
        obtain ⟨q, A0, c0, ks, hq, rfl, rfl, rfl, hkl, hrow, hG, htr, KR, hbr⟩ := hrel
        have ZR := KR.size
        have TR := htr.lt
        have hrl := RowK.lt hrow
        have hk9 : ks.length ≤ 9 := by omega
        have HKL := Lib.hid hkl
        clear HK HT HG hkl
        have HK := Lib.hid (show Kp w wr from KR); have HT := Lib.hid htr; have HRW := Lib.hid hrow; have HG := Lib.hid hG
        clear KR htr hrow hG
        by_cases hlt : q < m
        · have gq : decide (0 < ((m - q : Nat) : Int)) = true := decide_eq_true (by omega)
          have gq2 : decide (0 < m - q) = true := decide_eq_true (by omega)
          have wj : IntKind.i64.wrap (((m - q : Nat) : Int) - 1) = ((m - (q + 1) : Nat) : Int) := by rw [IntWalk.i64_in _ (by omega)]; omega
          obtain ⟨mj, hmj⟩ : ∃ mj : Nat, m - q = mj := ⟨_, rfl⟩
          rw [hmj] at gq gq2 wj ⊢
          obtain ⟨mk, hmk⟩ : ∃ mk : Nat, m - (q + 1) = mk := ⟨_, rfl⟩
          rw [hmk] at wj
          have HMJ := Lib.hid (And.intro hmj hmk); clear hmj hmk
          obtain ⟨i0, hif, hz0, hz1, hz2⟩ := info_parts infoKn
          have hXl : ∀ kk, (Value.slice A0 ks.length c0).ownBlock = some kk → base ≤ kk ∧ kk < wr.heap.size := hrl
          generalize hX : (Value.slice A0 ks.length c0).ownBlock = X at hXl
          have HXX := Lib.hid hX; clear hX hrl
          go_wp2_with fail
          refine (made_any b _ (HT.out.below (by (repeat' (first | (with_reducible exact Below.refl _ _) | (with_reducible refine Below.setCell ?_ ?_ _) | (with_reducible refine Below.alloc ?_ ?_ _) | (with_reducible refine Below.drew ?_) | (with_reducible refine below_drewN ?_ _))) <;> (first | omega | (simp <;> omega))))).mono ?_
          rintro e w6 ⟨k0, k1, k2, k3, k4, k5, rfl, -, ht6, hg6⟩
          have Z6 : wr.heap.size ≤ w6.heap.size := hg6.size
          replace HK := Lib.hid ((HK.out.below (by (repeat' (first | (with_reducible exact Below.refl _ _) | (with_reducible refine Below.setCell ?_ ?_ _) | (with_reducible refine Below.alloc ?_ ?_ _) | (with_reducible refine Below.drew ?_) | (with_reducible refine below_drewN ?_ _))) <;> (first | omega | (simp <;> omega)))).tap hg6 hbw)
          replace HG := Lib.hid ((HG.out.below (by (repeat' (first | (with_reducible exact Below.refl _ _) | (with_reducible refine Below.setCell ?_ ?_ _) | (with_reducible refine Below.alloc ?_ ?_ _) | (with_reducible refine Below.drew ?_) | (with_reducible refine below_drewN ?_ _))) <;> (first | omega | (simp <;> omega)))).tap hg6 (by omega))
          replace HRW := Lib.hid ((HRW.out.below (by (repeat' (first | (with_reducible exact Below.refl _ _) | (with_reducible refine Below.setCell ?_ ?_ _) | (with_reducible refine Below.alloc ?_ ?_ _) | (with_reducible refine Below.drew ?_) | (with_reducible refine below_drewN ?_ _))) <;> (first | omega | (simp <;> omega)))).tap hg6 hb1)
          replace HT := Lib.hid ht6
          clear ht6 hg6
          go_wp2_with (at_builtin; refine wpList_append_lies _ rfl _ _ 77 rfl base 72 i0 (.agg #[.int .i64 0, .int .i64 0, .int .i64 0, .int .i64 0, .int .i64 0, .int .i64 0]) 6 48 Try.underlying77 hif hz0 hz1 hz2 rfl (by decide) _ ks.length (kCells ks) rfl (RowK.below HRW.out (by (repeat' (first | (with_reducible exact Below.refl _ _) | (with_reducible refine Below.setCell ?_ ?_ _) | (with_reducible refine Below.alloc ?_ ?_ _) | (with_reducible refine Below.drew ?_) | (with_reducible refine below_drewN ?_ _))) <;> (first | omega | (simp <;> omega)))) ⟨_, 0, none⟩ 1 1 [.int .i64 k0, .int .i64 k1, .int .i64 k2, .int .i64 k3, .int .i64 k4, .int .i64 k5] rfl rfl (World.news_of_block (t := 72) (fr := (0, 0)) (Blk.new _ _ _)) ?c2 (by decide) ?c3 ?c4 ?c5 _ rfl ?_)
          case c2 => intro u hu; simp at hu; rcases hu with rfl | rfl | rfl | rfl | rfl | rfl <;> rfl
          case c3 => unfold maxLen; omega
          case c4 => omega
          case c5 => first | omega | (simp; omega)
          intro g7 cp7 w7 hown hgrow hlie hglt
          rw [HXX.out] at hgrow
          have Z7 := hgrow.size
          have K7 : Below w.heap.size w w7 := (show Below w.heap.size w _ from HK.out.below (by (repeat' (first | (with_reducible exact Below.refl _ _) | (with_reducible refine Below.setCell ?_ ?_ _) | (with_reducible refine Below.alloc ?_ ?_ _) | (with_reducible refine Below.drew ?_) | (with_reducible refine below_drewN ?_ _))) <;> (first | omega | (simp <;> omega)))).grown hgrow (by first | omega | (simp; omega)) (fun k hk => by have := hXl k hk; omega)
          have T7 : TapeAt w7 b := (HT.out.below (by (repeat' (first | (with_reducible exact Below.refl _ _) | (with_reducible refine Below.setCell ?_ ?_ _) | (with_reducible refine Below.alloc ?_ ?_ _) | (with_reducible refine Below.drew ?_) | (with_reducible refine below_drewN ?_ _))) <;> (first | omega | (simp <;> omega)))).kept (fun kk hk => hgrow.block kk (by have := HT.out.lt; first | omega | (simp; omega)) (fun e => by have := hXl kk e.symm; omega))
          have G7 : Blk w7 g10 72 #[.int .i64 l0, .int .i64 l1, .int .i64 l2, .int .i64 l3, .int .i64 l4, .int .i64 l5] := (hgrow.block g10 (by have := HG.out.lt; first | omega | (simp; omega)) (fun e => by have := hXl g10 e.symm; omega)).trans (HG.out.below (by (repeat' (first | (with_reducible exact Below.refl _ _) | (with_reducible refine Below.setCell ?_ ?_ _) | (with_reducible refine Below.alloc ?_ ?_ _) | (with_reducible refine Below.drew ?_) | (with_reducible refine below_drewN ?_ _))) <;> (first | omega | (simp <;> omega))))
          have R7 : RowK w7 base (.slice (some ⟨g7, 0, none⟩) (ks ++ [(⟨k0, k1, k2, k3, k4, k5⟩ : K6)]).length cp7) (ks ++ [(⟨k0, k1, k2, k3, k4, k5⟩ : K6)]) := by
            unfold RowK
            rw [List.length_append, List.length_singleton, kCells_snoc]; exact hown
          have hb7 : base ≤ w7.heap.size := by first | omega | (simp at Z7; omega)
          have H7 := Lib.hid (And.intro K7 (And.intro T7 (And.intro R7 (And.intro G7 hb7))))
          clear hown hgrow hlie hglt K7 T7 R7 G7 Z7 hb7
          go_wp2
          go_roundg (m - (q + 1))
          case measure => omega
          case rel => exact ⟨q + 1, _, _, ks ++ [(⟨k0, k1, k2, k3, k4, k5⟩ : K6)], by omega, by omega, by have := HMJ.out.2; (try rw [this]), by simp, by simp [HKL.out], H7.out.2.2.1, H7.out.2.2.2.1, H7.out.2.1, H7.out.1, H7.out.2.2.2.2⟩
        · obtain rfl : q = m := by omega
          have gq : decide (0 < ((q - q : Nat) : Int)) = false := decide_eq_false (by omega)
          obtain ⟨mj, hmj⟩ : ∃ mj : Nat, q - q = mj := ⟨_, rfl⟩
          rw [hmj] at gq ⊢
          have gq2 : decide (0 < mj) = false := decide_eq_false (by omega)
          have HMJ := Lib.hid hmj; clear hmj
          have hkn := RowK.known HRW.out (by omega)
          have HKN := Lib.hid hkn
          have HLI2 := Lib.hid (HLI.out.below HK.out.b)
          clear hkn HRW HT hrl
          obtain ⟨w8, rfl⟩ : ∃ x : World, x = wr := ⟨_, rfl⟩
          go_wp2_with fail
          refine (new_z LA llen lcap ls _ (HLI2.out.below (by (repeat' (first | (with_reducible exact Below.refl _ _) | (with_reducible refine Below.setCell ?_ ?_ _) | (with_reducible refine Below.alloc ?_ ?_ _) | (with_reducible refine Below.drew ?_) | (with_reducible refine below_drewN ?_ _))) <;> (first | omega | (simp <;> omega))))).mono ?_
          rintro e w9 ⟨rfl, ht9, hb9⟩
          have Z9 := hb9.size
          have T9 := ht9.lt
          obtain ⟨b2, hb2e⟩ : ∃ b2, b2 = w8.heap.size := ⟨_, rfl⟩
          have hbb : w8.heap.size ≤ b2 := by omega
          rw [← hb2e] at ht9 T9 ⊢
          clear hb2e
          have HT9 := Lib.hid ht9; have HK9 := Lib.hid (show Kp w8 w9 from hb9)
          clear ht9 hb9
          go_upto_region 11 with fail
          go_cut [16, 17, 18] (fun v o e wx => ∃ g16, v = .pointer (some ⟨g16, 0, none⟩) ∧ o = .bool lb ∧ e = .int .i64 le ∧ w8.heap.size ≤ g16 ∧ Blk wx g16 72 #[.int .i64 l0, .int .i64 l1, .int .i64 l2, .int .i64 l3, .int .i64 l4, .int .i64 l5] ∧ Below w8.heap.size w8 wx)
          case first =>
            go_wp2_with fail
            refine (RM.out b2 _ (HT9.out.below (by (repeat' (first | (with_reducible exact Below.refl _ _) | (with_reducible refine Below.setCell ?_ ?_ _) | (with_reducible refine Below.alloc ?_ ?_ _) | (with_reducible refine Below.drew ?_) | (with_reducible refine below_drewN ?_ _))) <;> (first | omega | (simp <;> omega))))).mono ?_
            rintro e w10 ⟨rfl, ht10, hg10⟩
            have K10 : Below w8.heap.size w8 w10 := below_grown HK9.out.b hg10 hbb (by omega)
            have HT10 := Lib.hid ht10; clear ht10 hg10
            go_wp2_with fail
            refine (RS.out b2 _ HT10.out).mono ?_
            rintro e w11 ⟨rfl, ht11, hg11⟩
            have K11 : Below w8.heap.size w8 w11 := below_grown K10 hg11 hbb K10.size
            clear ht11 hg11 HT10
            go_wp2_with fail
            refine (RR.out _).mono ?_
            rintro e w12 ⟨rfl, hb12⟩
            have K12 : Below w8.heap.size w8 w12 := kept_call hb12 K11
            have Z12 := K12.size
            clear hb12
            go_wp2_with fail
            go_meet
            exact ⟨w12.heap.size, rfl, rfl, rfl, Z12, (by first | exact Blk.new _ _ _ | exact (by (repeat' (first | ((with_reducible refine' Blk.newE ?_); first | rfl | (simp; done)) | (with_reducible refine' Blk.alloc ?_ _) | (with_reducible refine' Blk.drew ?_) | (with_reducible refine' Blk.drewN ?_ _) | (with_reducible refine' Blk.put ?_ ?_) | (with_reducible refine' Blk.far ?_ ?_ _) | exact rfl)) <;> (first | omega | (simp <;> omega)))), kept_call (by (repeat' (first | (with_reducible exact Below.refl _ _) | (with_reducible refine Below.setCell ?_ ?_ _) | (with_reducible refine Below.alloc ?_ ?_ _) | (with_reducible refine Below.drew ?_) | (with_reducible refine below_drewN ?_ _))) <;> (first | omega | (simp <;> omega))) K12⟩
          case rest =>
            obtain ⟨g16, rfl, rfl, rfl, hg16, b16, KD⟩ := hcut
            have ZD := KD.size
            clear HT9 HK9 HLI2
            replace HK := Lib.hid (HK.out.below KD)
            replace HG := Lib.hid (HG.out.below KD)
            replace HKN := Lib.hid (HKN.out.below KD)
            have H16 := Lib.hid b16
            have l16 := b16.lt
            clear b16 KD
            obtain ⟨w13, rfl⟩ : ∃ x : World, x = wc := ⟨_, rfl⟩
            go_wp2_with fail
            refine (RW5.out _).mono ?_
            rintro e wq ⟨rfl, rfl⟩
            go_wp2_with fail
            refine (imerge_any A0 ks.length c0 ks n n5 _ (HKN.out.below (by (repeat' (first | (with_reducible exact Below.refl _ _) | (with_reducible refine Below.setCell ?_ ?_ _) | (with_reducible refine Below.alloc ?_ ?_ _) | (with_reducible refine Below.drew ?_) | (with_reducible refine below_drewN ?_ _))) <;> (first | omega | (simp <;> omega))))).mono ?_
            rintro e w14 ⟨y0, y1, ye, rfl, hmg, hb14⟩
            have S14 : Below w13.heap.size w13 w14 := kept_call hb14 (by (repeat' (first | (with_reducible exact Below.refl _ _) | (with_reducible refine Below.setCell ?_ ?_ _) | (with_reducible refine Below.alloc ?_ ?_ _) | (with_reducible refine Below.drew ?_) | (with_reducible refine below_drewN ?_ _))) <;> (first | omega | (simp <;> omega)))
            have Z14 := S14.size
            replace HK := Lib.hid (HK.out.below S14)
            replace HG := Lib.hid (HG.out.below S14)
            replace HKN := Lib.hid (HKN.out.below S14)
            replace H16 := Lib.hid (H16.out.below S14)
            clear hb14 S14
            have HMG := Lib.hid hmg; clear hmg
            skip
            go_wp2_with fail
            refine (RW5.out _).mono ?_
            rintro e wq ⟨rfl, rfl⟩
            go_wp2_with fail
            refine (rmerge_any A0 ks.length c0 ks n n5 _ (HKN.out.below (by (repeat' (first | (with_reducible exact Below.refl _ _) | (with_reducible refine Below.setCell ?_ ?_ _) | (with_reducible refine Below.alloc ?_ ?_ _) | (with_reducible refine Below.drew ?_) | (with_reducible refine below_drewN ?_ _))) <;> (first | omega | (simp <;> omega))))).mono ?_
            rintro e w15 ⟨z0, z1, ze, rfl, hmg2, hb15⟩
            have S15 : Below w14.heap.size w14 w15 := kept_call hb15 (by (repeat' (first | (with_reducible exact Below.refl _ _) | (with_reducible refine Below.setCell ?_ ?_ _) | (with_reducible refine Below.alloc ?_ ?_ _) | (with_reducible refine Below.drew ?_) | (with_reducible refine below_drewN ?_ _))) <;> (first | omega | (simp <;> omega)))
            have Z15 := S15.size
            have H19 := Lib.hid (Blk.keep (g := w14.heap.size) (t := 35) (cs := #[.int .i64 y0, .int .i64 y1]) hb15 (by first | exact Blk.new _ _ _ | exact setAll_blk [.int .i64 y0, .int .i64 y1] 0 _ #[.int .i64 0, .int .i64 0] (Blk.new _ _ _)))
            replace HK := Lib.hid (HK.out.below S15)
            replace HG := Lib.hid (HG.out.below S15)
            replace HKN := Lib.hid (HKN.out.below S15)
            replace H16 := Lib.hid (H16.out.below S15)
            clear hb15 S15
            obtain ⟨rfl, rfl, rfl⟩ := MG_uniq HMG.out hmg2
            clear hmg2 HMG HKN
            go_wp2_with fail
            refine (known37_any _).mono ?_
            rintro e w16 ⟨rfl, hb16⟩
            have S16 : Below w15.heap.size w15 w16 := kept_call hb16 (by (repeat' (first | (with_reducible exact Below.refl _ _) | (with_reducible refine Below.setCell ?_ ?_ _) | (with_reducible refine Below.alloc ?_ ?_ _) | (with_reducible refine Below.drew ?_) | (with_reducible refine below_drewN ?_ _))) <;> (first | omega | (simp <;> omega)))
            have Z16 := S16.size
            have H21 := Lib.hid (Blk.keep (g := w15.heap.size) (t := 35) (cs := #[.int .i64 y0, .int .i64 y1]) hb16 (by first | exact Blk.new _ _ _ | exact setAll_blk [.int .i64 y0, .int .i64 y1] 0 _ #[.int .i64 0, .int .i64 0] (Blk.new _ _ _)))
            replace HK := Lib.hid (HK.out.below S16)
            replace HG := Lib.hid (HG.out.below S16)
            replace H16 := Lib.hid (H16.out.below S16)
            replace H19 := Lib.hid (H19.out.below S16)
            clear hb16 S16
            have pk := partK
            have bG := HG.out; have b16 := H16.out; have b19 := H19.out; have b21 := H21.out
            obtain ⟨cG, fG, lG, eG, kG⟩ := Blk.facts bG
            obtain ⟨c16, f16, l16', e16, k16⟩ := Blk.facts b16
            obtain ⟨c19, f19, l19, e19, k19⟩ := Blk.facts b19
            obtain ⟨c21, f21, l21, e21, k21⟩ := Blk.facts b21
            go_wp2
            go_ret
            exact ⟨rfl, HK.out.below (by (repeat' (first | (with_reducible exact Below.refl _ _) | (with_reducible refine Below.setCell ?_ ?_ _) | (with_reducible refine Below.alloc ?_ ?_ _) | (with_reducible refine Below.drew ?_) | (with_reducible refine below_drewN ?_ _))) <;> (first | omega | (simp <;> omega)))⟩
theorem learns_row (A : Option Addr) (len cap : Nat) (zs : List Int) {w : World} (k : IntsAt w A len zs) (a : Int) (_ : IntIn a) (f : Int) (_ : IntIn f) (W : World) (hw : W = w) :
    Walked 10 #[.slice A len cap, .int .i64 a, .int .i64 f] W := by
  subst hw; exact learns_walk A len cap zs a f W k
end Go.Proofs.Ytlfkkfdolnkjfaa
