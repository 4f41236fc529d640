/- The instants at which a smeared clock shows something: Clear of both, for every table. -/
import Derived.Test.YtmebkbnildjfhaaLeapQ
import Derived.Deep.DeepCutAuto
import Derived.Deep.LoopGhost
namespace Go.Proofs.Ytmebkbnildjfhaa
open Go.RowKit
set_option linter.unusedSimpArgs false
set_option linter.unusedVariables false

/-- L is the least instant from 2^27 on at which the clock shows at least s; 2^58 + 1, if there is none up to 2^58. -/
def LeastP (first : Int) (zs : List (Int × Int)) (s L : Int) : Prop := 134217728 ≤ L ∧ L ≤ 288230376151711745 ∧ (∀ t, 134217728 ≤ t → t < L → shL first zs t < s) ∧ (∀ t, L ≤ t → t ≤ 288230376151711744 → s ≤ shL first zs t)
theorem least_uniq {first : Int} {zs : List (Int × Int)} {s L L' : Int} (h : LeastP first zs s L) (h' : LeastP first zs s L') : L = L' := by
  obtain ⟨a1, a2, a3, a4⟩ := h
  obtain ⟨b1, b2, b3, b4⟩ := h'
  rcases Int.lt_trichotomy L L' with e | e | e
  · have := b3 L a1 e; have := a4 L (Int.le_refl _) (by omega); omega
  · exact e
  · have := a3 L' b1 e; have := b4 L' (Int.le_refl _) (by omega); omega
theorem least_mono {first : Int} {zs : List (Int × Int)} {s s' L L' : Int} (hs : s ≤ s') (h : LeastP first zs s L) (h' : LeastP first zs s' L') : L ≤ L' := by
  obtain ⟨a1, a2, a3, a4⟩ := h
  obtain ⟨b1, b2, b3, b4⟩ := h'
  by_cases e : L' < L
  · have := a3 L' b1 e; have := b4 L' (Int.le_refl _) (by omega); omega
  · omega
/-- What Clear gives. -/
def ClearR (first : Int) (zs : List (Int × Int)) (s : Int) (v : Value) : Prop :=
  if lvB first zs then (if 268435456 ≤ s ∧ s ≤ 144115188075855872 then ∃ a b, LeastP first zs s a ∧ LeastP first zs (s + 1) b ∧ ((a = b ∧ v = .tuple #[.agg #[.int .i64 0, .int .i64 0], .int .i64 10]) ∨ (a < b ∧ v = .tuple #[.agg #[.int .i64 a, .int .i64 (b - 1)], .int .i64 0])) else v = .tuple #[.agg #[.int .i64 0, .int .i64 0], .int .i64 4]) else v = .tuple #[.agg #[.int .i64 0, .int .i64 0], .int .i64 3]
theorem clearR_uniq {first : Int} {zs : List (Int × Int)} {s : Int} {v v' : Value} (h : ClearR first zs s v) (h' : ClearR first zs s v') : v = v' := by
  unfold ClearR at h h'
  split at h
  · next hv =>
    rw [if_pos hv] at h'
    split at h
    · next hs =>
      rw [if_pos hs] at h'
      obtain ⟨a, b, ha, hb, h⟩ := h
      obtain ⟨a', b', ha', hb', h'⟩ := h'
      obtain rfl := least_uniq ha ha'
      obtain rfl := least_uniq hb hb'
      rcases h with ⟨h1, h2⟩ | ⟨h1, h2⟩ <;> rcases h' with ⟨h3, h4⟩ | ⟨h3, h4⟩ <;> first | omega | rw [h2, h4]
    · next hs => rw [if_neg hs] at h'; rw [h, h']
  · next hv => rw [if_neg hv] at h'; rw [h, h']
theorem clearR_form {first : Int} {zs : List (Int × Int)} {s : Int} {v : Value} (h : ClearR first zs s v) : ∃ x y e : Int, v = .tuple #[.agg #[.int .i64 x, .int .i64 y], .int .i64 e] := by
  unfold ClearR at h
  split at h
  · split at h
    · obtain ⟨a, b, _, _, ⟨_, h⟩ | ⟨_, h⟩⟩ := h <;> exact ⟨_, _, _, h⟩
    · exact ⟨_, _, _, h⟩
  · exact ⟨_, _, _, h⟩
theorem clearR_no {first : Int} {zs : List (Int × Int)} {s : Int} (h : ¬ LVal first zs) : ClearR first zs s (.tuple #[.agg #[.int .i64 0, .int .i64 0], .int .i64 3]) := by unfold ClearR; rw [lvB_no h]; exact rfl
theorem clearR_out {first : Int} {zs : List (Int × Int)} {s : Int} (h : LVal first zs) (hs : ¬ (268435456 ≤ s ∧ s ≤ 144115188075855872)) : ClearR first zs s (.tuple #[.agg #[.int .i64 0, .int .i64 0], .int .i64 4]) := by unfold ClearR; rw [lvB_true.2 h, if_pos rfl, if_neg hs]
theorem clearR_none {first : Int} {zs : List (Int × Int)} {s a : Int} (h : LVal first zs) (hs : 268435456 ≤ s ∧ s ≤ 144115188075855872) (ha : LeastP first zs s a) (hb : LeastP first zs (s + 1) a) : ClearR first zs s (.tuple #[.agg #[.int .i64 0, .int .i64 0], .int .i64 10]) := by unfold ClearR; rw [lvB_true.2 h, if_pos rfl, if_pos hs]; exact ⟨a, a, ha, hb, .inl ⟨rfl, rfl⟩⟩
theorem clearR_in {first : Int} {zs : List (Int × Int)} {s a b : Int} (h : LVal first zs) (hs : 268435456 ≤ s ∧ s ≤ 144115188075855872) (ha : LeastP first zs s a) (hb : LeastP first zs (s + 1) b) (hab : a < b) : ClearR first zs s (.tuple #[.agg #[.int .i64 a, .int .i64 (b - 1)], .int .i64 0]) := by unfold ClearR; rw [lvB_true.2 h, if_pos rfl, if_pos hs]; exact ⟨a, b, ha, hb, .inr ⟨hab, rfl⟩⟩
theorem shift1 (x : Int) : x / 2 ^ 1 = x / 2 := rfl
set_option maxRecDepth 100000 in
set_option maxHeartbeats 1000000 in
theorem pred_any (first : Int) (A : Option Addr) (len cap : Nat) (zs : List (Int × Int)) (hv : LVal first zs) (bl bs : Nat) (s i : Int) (i0 : 0 ≤ i) (i1 : i ≤ 288230376017494016) (w : World) (h : PrAt w A len zs) (bL : Blk w bl 25 #[.int .i64 first, .slice A len cap]) (bS : Blk w bs 3 #[.int .i64 s]) :
    Calls Try.prog 55 #[.int .i64 i, .pointer (some ⟨bl, 0, none⟩), .pointer (some ⟨bs, 0, none⟩)] w (RB w (.bool (decide (s ≤ shL first zs (134217728 + i))))) := by
  have RS := Lib.hid (fun W (hW : Below w.heap.size w W) => shows_any first A len cap zs (134217728 + i) hv (by omega) (by omega) W (h.below hW))
  clear h hv
  have wi : IntKind.i64.wrap (134217728 + i) = 134217728 + i := IntWalk.i64_in _ (by omega)
  generalize shL first zs (134217728 + i) = x at *
  go_enter Try.func55, Try.ntmps55
  obtain ⟨cL, fL, lL, eL, kL⟩ := Blk.facts bL
  obtain ⟨cS, fS, lS, eS, kS⟩ := Blk.facts bS
  go_upto_region 1 with fail
  refine' wp_region_calm (by kernel_rfl) (fun _ _ w' => Below w.heap.size w w' ∧ Blk w' (bl) 25 #[.int .i64 first, .slice A len cap] ∧ Blk w' (bs) 3 #[.int .i64 s]) (fun _ _ => True) [(Is _), (Is _), (Is _), (Is _), (Is _), (Is _), (Is _)] [[], [], [1], [0, 2], [], [3, 4], [5]] [] [] rfl (by kernel_rfl) (fun u => by (simp only [calmPut, Act.put, List.setIfInBounds_toArray, List.set_cons_zero, List.set_cons_succ, Nat.zero_add, Nat.reduceAdd]; rfl)) ?_ (calmKeep_cons keep_is' (calmKeep_cons keep_is' (calmKeep_cons keep_is' (calmKeep_cons keep_is' (calmKeep_cons keep_is' (calmKeep_cons keep_is' (calmKeep_cons keep_is' (calmKeep_nil)))))))) ?_ ?_
  · intro _
    exact ⟨(by (repeat' (first | (with_reducible exact Below.refl _ _) | (with_reducible refine Below.setCell ?_ ?_ _) | (with_reducible refine Below.alloc ?_ ?_ _) | (with_reducible refine Below.drew ?_) | (with_reducible refine below_drewN ?_ _))) <;> (first | omega | (simp <;> omega))), (by (repeat' (first | (with_reducible exact bL) | (with_reducible refine' Blk.alloc ?_ _) | (with_reducible refine' Blk.drew ?_) | (with_reducible refine' Blk.drewN ?_ _) | (with_reducible refine' Blk.put ?_ ?_) | (with_reducible refine' Blk.far ?_ ?_ _) | exact bL | exact rfl)) <;> (first | omega | (simp <;> omega))), (by (repeat' (first | (with_reducible exact bS) | (with_reducible refine' Blk.alloc ?_ _) | (with_reducible refine' Blk.drew ?_) | (with_reducible refine' Blk.drewN ?_ _) | (with_reducible refine' Blk.put ?_ ?_) | (with_reducible refine' Blk.far ?_ ?_ _) | exact bS | exact rfl)) <;> (first | omega | (simp <;> omega)))⟩
  rotate_left 7
  · skip
    refine calmSteps_cons (fun u wq n hn hn2 hC hk K hK => ?_) ?_
    · obtain ⟨hP, mL, mS⟩ := hC
      clear hk
      have zL := mL.cell
      have zS := mS.cell
      go_simp
      exact hK _ _ _ rfl ⟨hP, mL, mS⟩ trivial rfl
    refine calmSteps_cons (fun u wq n hn hn2 hC hk K hK => ?_) ?_
    · obtain ⟨hP, mL, mS⟩ := hC
      clear hk
      go_simp
      exact hK _ _ _ rfl ⟨hP, mL, mS⟩ trivial rfl
    refine calmSteps_cons (fun u wq n hn hn2 hC hk K hK => ?_) ?_
    · obtain ⟨hP, mL, mS⟩ := hC
      simp only [calmKnown, List.getElem?_cons_zero, List.getElem?_cons_succ, and_true, Is, Pure, Option.some.injEq, List.getD_cons_zero, List.getD_cons_succ, List.map_cons, List.map_nil] at hk
      have h1 := hk; clear hk
      simp only [h1] at hK ⊢
      have H1 := Lib.hid h1; clear h1
      go_simp
      exact hK _ _ _ rfl ⟨hP, mL, mS⟩ trivial rfl
    refine calmSteps_cons (fun u wq n hn hn2 hC hk K hK => ?_) ?_
    · obtain ⟨hP, mL, mS⟩ := hC
      simp only [calmKnown, List.getElem?_cons_zero, List.getElem?_cons_succ, and_true, Is, Pure, Option.some.injEq, List.getD_cons_zero, List.getD_cons_succ, List.map_cons, List.map_nil] at hk
      obtain ⟨h0, h2⟩ := hk
      simp only [h0, h2] at hK ⊢
      have H0 := Lib.hid h0; clear h0; have H2 := Lib.hid h2; clear h2
      go_wp2_with fail
      first | (with_reducible refine (RS.out _ hP).mono ?_)
      rintro e w2 ⟨rfl, hbl⟩
      exact hK _ _ _ rfl ⟨kept_call hbl hP, Blk.keep hbl mL, Blk.keep hbl mS⟩ trivial rfl
    refine calmSteps_cons (fun u wq n hn hn2 hC hk K hK => ?_) ?_
    · obtain ⟨hP, mL, mS⟩ := hC
      clear hk
      have zL := mL.cell
      have zS := mS.cell
      go_simp
      exact hK _ _ _ rfl ⟨hP, mL, mS⟩ trivial rfl
    refine calmSteps_cons (fun u wq n hn hn2 hC hk K hK => ?_) ?_
    · obtain ⟨hP, mL, mS⟩ := hC
      simp only [calmKnown, List.getElem?_cons_zero, List.getElem?_cons_succ, and_true, Is, Pure, Option.some.injEq, List.getD_cons_zero, List.getD_cons_succ, List.map_cons, List.map_nil] at hk
      obtain ⟨h3, h4⟩ := hk
      simp only [h3, h4] at hK ⊢
      have H3 := Lib.hid h3; clear h3; have H4 := Lib.hid h4; clear h4
      go_simp
      exact hK _ _ _ rfl ⟨hP, mL, mS⟩ trivial rfl
    refine calmSteps_cons (fun u wq n hn hn2 hC hk K hK => ?_) ?_
    · obtain ⟨hP, mL, mS⟩ := hC
      simp only [calmKnown, List.getElem?_cons_zero, List.getElem?_cons_succ, and_true, Is, Pure, Option.some.injEq, List.getD_cons_zero, List.getD_cons_succ, List.map_cons, List.map_nil] at hk
      have h5 := hk; clear hk
      simp only [h5] at hK ⊢
      have H5 := Lib.hid h5; clear h5
      go_simp
      exact hK _ _ _ rfl ⟨hP, mL, mS⟩ trivial rfl
    exact calmSteps_nil
  · intro u w1 hC hF
    obtain ⟨hP, mL, mS⟩ := hC
    simp only [calmFacts, Is, and_true] at hF
    obtain ⟨f0, f1, f2, f3, f4, f5, f6⟩ := hF
    simp only [f0, f1, f2, f3, f4, f5, f6]
    clear f0 f1 f2 f3 f4 f5 f6
    have K1 := hP
    have Z1 : w.heap.size ≤ w1.heap.size := K1.size
    clear hP
    clear bL cL fL lL eL kL; have bL := mL; clear mL
    obtain ⟨cL, fL, lL, eL, kL⟩ := Blk.facts bL
    clear bS cS fS lS eS kS; have bS := mS; clear mS
    obtain ⟨cS, fS, lS, eS, kS⟩ := Blk.facts bS
    go_wp2
    go_ret
    exact ⟨rfl, (by (repeat' (first | (with_reducible exact K1) | (with_reducible refine Below.setCell ?_ ?_ _) | (with_reducible refine Below.alloc ?_ ?_ _) | (with_reducible refine Below.drew ?_) | (with_reducible refine below_drewN ?_ _))) <;> (first | omega | (simp <;> omega)))⟩
def SRel (w : World) (first : Int) (zs : List (Int × Int)) (s : Int) (G : Nat) (i j : Value) (wr : World) : Prop := ∃ lo hi : Nat, i = .int .i64 lo ∧ j = .int .i64 hi ∧ lo ≤ hi ∧ hi ≤ 288230376017494017 ∧ hi - lo ≤ G ∧ (∀ t, 134217728 ≤ t → t < 134217728 + (lo : Int) → shL first zs t < s) ∧ (∀ t, 134217728 + (hi : Int) ≤ t → t ≤ 288230376151711744 → s ≤ shL first zs t) ∧ Below w.heap.size w wr
set_option maxRecDepth 100000 in
set_option maxHeartbeats 1000000 in
theorem search_any (first : Int) (A : Option Addr) (len cap : Nat) (zs : List (Int × Int)) (hv : LVal first zs) (bl bs : Nat) (s : Int) (w : World) (h : PrAt w A len zs) (bL : Blk w bl 25 #[.int .i64 first, .slice A len cap]) (bS : Blk w bs 3 #[.int .i64 s]) :
    Calls Try.prog 54 #[.int .i64 288230376017494017, .func (.func 55) #[] #[.pointer (some ⟨bl, 0, none⟩), .pointer (some ⟨bs, 0, none⟩)]] w (fun e w' => ∃ k : Int, e = .returned (.int .i64 k) ∧ LeastP first zs s (134217728 + k) ∧ Below w.heap.size w w') := by
  have HP := Lib.hid (fun i (i0 : 0 ≤ i) (i1 : i ≤ 288230376017494016) W (hW : Below w.heap.size w W) => pred_any first A len cap zs hv bl bs s i i0 i1 W (h.below hW) (Blk.keep hW bL) (Blk.keep hW bS))
  have HV := Lib.hid hv; clear h hv bL bS
  go_enter Try.func54, Try.ntmps54
  go_wp2
  go_loopg [5, 6] 288230376017494017 (fun G i j wr => SRel w first zs s G i j wr)
  case atStart => exact ⟨0, 288230376017494017, rfl, rfl, by omega, by omega, by omega, fun t a b => by omega, fun t a b => by omega, by (repeat' (first | (with_reducible exact Below.refl _ _) | (with_reducible refine Below.setCell ?_ ?_ _) | (with_reducible refine Below.alloc ?_ ?_ _) | (with_reducible refine Below.drew ?_) | (with_reducible refine below_drewN ?_ _))) <;> (first | omega | (simp <;> omega))⟩
  case round =>
    obtain ⟨lo, hi, rfl, rfl, hlh, hhi, hG, h1, h2, KR⟩ := hrel
    have ZR := KR.size
    have H1 := Lib.hid h1; have H2 := Lib.hid h2; clear h1 h2
    by_cases hlt : lo < hi
    · have gk : decide ((lo : Int) < (hi : Int)) = true := decide_eq_true (by omega)
      obtain ⟨m, hm⟩ : ∃ m : Nat, m = (lo + hi) / 2 := ⟨_, rfl⟩
      have w1 : IntKind.i64.wrap ((lo : Int) + (hi : Int)) = (lo : Int) + (hi : Int) := IntWalk.i64_in _ (by omega)
      have w2 : IntKind.u64.wrap ((lo : Int) + (hi : Int)) = (lo : Int) + (hi : Int) := by simp [IntKind.wrap, IntKind.bits, IntKind.signed]; omega
      have w3 : ((lo : Int) + (hi : Int)) / 2 = (m : Int) := by omega
      have w4 : IntKind.u64.wrap (m : Int) = (m : Int) := by simp [IntKind.wrap, IntKind.bits, IntKind.signed]; omega
      have w5 : IntKind.i64.wrap (m : Int) = (m : Int) := IntWalk.i64_in _ (by omega)
      have w6 : IntKind.i64.wrap ((m : Int) + 1) = ((m + 1 : Nat) : Int) := by rw [IntWalk.i64_in _ (by omega)]; omega
      have hml : lo ≤ m := by omega
      have hmh : m < hi := by omega
      have HM := Lib.hid hm; clear hm
      have hc := HP.out (m : Int) (by omega) (by omega) wr KR
      have hmono : ∀ a b, a ≤ b → shL first zs a ≤ shL first zs b := fun a b h => shL_mono HV.out h
      have HMO := Lib.hid hmono; clear hmono
      by_cases hp : s ≤ shL first zs (134217728 + (m : Int))
      · rw [decide_eq_true hp] at hc
        have HC := Lib.hid hc; have HPP := Lib.hid hp; clear hc hp
        go_wp2_with fail
        refine (HC.out).mono ?_
        rintro e w1 ⟨rfl, hb1⟩
        have K1 : Below w.heap.size w w1 := kept_call hb1 (by (repeat' (first | (with_reducible exact KR) | (with_reducible refine Below.setCell ?_ ?_ _) | (with_reducible refine Below.alloc ?_ ?_ _) | (with_reducible refine Below.drew ?_) | (with_reducible refine below_drewN ?_ _))) <;> (first | omega | (simp <;> omega)))
        have Z1 : w.heap.size ≤ w1.heap.size := K1.size
        clear hb1 KR
        go_wp2
        go_roundg (m - lo)
        case measure => omega
        case rel => exact ⟨lo, m, by go_num, by go_num, by omega, by omega, by omega, H1.out, fun t a b => by have := HPP.out; have := HMO.out _ _ a; omega, by (repeat' (first | (with_reducible exact K1) | (with_reducible refine Below.setCell ?_ ?_ _) | (with_reducible refine Below.alloc ?_ ?_ _) | (with_reducible refine Below.drew ?_) | (with_reducible refine below_drewN ?_ _))) <;> (first | omega | (simp <;> omega))⟩
      · rw [decide_eq_false hp] at hc
        have HC := Lib.hid hc; have HPP := Lib.hid hp; clear hc hp
        go_wp2_with fail
        refine (HC.out).mono ?_
        rintro e w1 ⟨rfl, hb1⟩
        have K1 : Below w.heap.size w w1 := kept_call hb1 (by (repeat' (first | (with_reducible exact KR) | (with_reducible refine Below.setCell ?_ ?_ _) | (with_reducible refine Below.alloc ?_ ?_ _) | (with_reducible refine Below.drew ?_) | (with_reducible refine below_drewN ?_ _))) <;> (first | omega | (simp <;> omega)))
        have Z1 : w.heap.size ≤ w1.heap.size := K1.size
        clear hb1 KR
        go_wp2
        go_roundg (hi - (m + 1))
        case measure => omega
        case rel => exact ⟨m + 1, hi, by go_num, by go_num, by omega, by omega, by omega, fun t a b => by have := HPP.out; have := HMO.out t (134217728 + (m : Int)) (by omega); omega, H2.out, by (repeat' (first | (with_reducible exact K1) | (with_reducible refine Below.setCell ?_ ?_ _) | (with_reducible refine Below.alloc ?_ ?_ _) | (with_reducible refine Below.drew ?_) | (with_reducible refine below_drewN ?_ _))) <;> (first | omega | (simp <;> omega))⟩
    · obtain rfl : lo = hi := by omega
      have gk : decide ((lo : Int) < (lo : Int)) = false := decide_eq_false (by omega)
      go_wp2
      go_ret
      exact ⟨_, rfl, ⟨by omega, by omega, H1.out, H2.out⟩, by (repeat' (first | (with_reducible exact KR) | (with_reducible refine Below.setCell ?_ ?_ _) | (with_reducible refine Below.alloc ?_ ?_ _) | (with_reducible refine Below.drew ?_) | (with_reducible refine below_drewN ?_ _))) <;> (first | omega | (simp <;> omega))⟩
set_option maxRecDepth 100000 in
set_option maxHeartbeats 1000000 in
theorem first_any (first : Int) (A : Option Addr) (len cap : Nat) (zs : List (Int × Int)) (hv : LVal first zs) (bl : Nat) (s : Int) (w : World) (h : PrAt w A len zs) (bL : Blk w bl 25 #[.int .i64 first, .slice A len cap]) :
    Calls Try.prog 53 #[.int .i64 s, .pointer (some ⟨bl, 0, none⟩)] w (fun e w' => ∃ L : Int, e = .returned (.int .i64 L) ∧ LeastP first zs s L ∧ Below w.heap.size w w') := by
  have H := Lib.hid h; have HV := Lib.hid hv; clear h hv
  go_enter Try.func53, Try.ntmps53
  go_wp2_with fail
  refine (search_any first A len cap zs HV.out bl w.heap.size s _ (H.out.below (by (repeat' (first | (with_reducible exact Below.refl _ _) | (with_reducible refine Below.setCell ?_ ?_ _) | (with_reducible refine Below.alloc ?_ ?_ _) | (with_reducible refine Below.drew ?_) | (with_reducible refine below_drewN ?_ _))) <;> (first | omega | (simp <;> omega)))) (by (repeat' (first | (with_reducible exact bL) | (with_reducible refine' Blk.alloc ?_ _) | (with_reducible refine' Blk.drew ?_) | (with_reducible refine' Blk.drewN ?_ _) | (with_reducible refine' Blk.put ?_ ?_) | (with_reducible refine' Blk.far ?_ ?_ _) | exact bL | exact rfl)) <;> (first | omega | (simp <;> omega))) (by (repeat' (first | ((with_reducible refine' Blk.newE ?_); first | rfl | (simp; done)) | (with_reducible refine' Blk.alloc ?_ _) | (with_reducible refine' Blk.drew ?_) | (with_reducible refine' Blk.drewN ?_ _) | (with_reducible refine' Blk.put ?_ ?_) | (with_reducible refine' Blk.far ?_ ?_ _) | exact rfl)) <;> (first | omega | (simp <;> omega)))).mono ?_
  rintro e w1 ⟨k, rfl, hk, hb1⟩
  have bk : IntKind.i64.wrap (134217728 + k) = 134217728 + k := by obtain ⟨a1, a2, _⟩ := hk; exact IntWalk.i64_in _ (by omega)
  have HK := Lib.hid hk; clear hk
  have K1 : Below w.heap.size w w1 := kept_call hb1 (by (repeat' (first | (with_reducible exact Below.refl _ _) | (with_reducible refine Below.setCell ?_ ?_ _) | (with_reducible refine Below.alloc ?_ ?_ _) | (with_reducible refine Below.drew ?_) | (with_reducible refine below_drewN ?_ _))) <;> (first | omega | (simp <;> omega)))
  have Z1 : w.heap.size ≤ w1.heap.size := K1.size
  clear hb1
  go_wp2
  go_ret
  exact ⟨_, rfl, HK.out, by (repeat' (first | (with_reducible exact K1) | (with_reducible refine Below.setCell ?_ ?_ _) | (with_reducible refine Below.alloc ?_ ?_ _) | (with_reducible refine Below.drew ?_) | (with_reducible refine below_drewN ?_ _))) <;> (first | omega | (simp <;> omega))⟩
def LsRel (w : World) (first : Int) (A : Option Addr) (len cap : Nat) (zs : List (Int × Int)) (s : Int) (G : Nat) (i j : Value) (wr : World) : Prop := ∃ lo hi : Int, i = .int .i64 lo ∧ j = .int .i64 hi ∧ 134217728 ≤ lo ∧ lo ≤ hi ∧ hi ≤ 288230376151711745 ∧ (hi - lo).toNat ≤ G ∧ (∀ t, 134217728 ≤ t → t < lo → shL first zs t < s) ∧ (∀ t, hi ≤ t → t ≤ 288230376151711744 → s ≤ shL first zs t) ∧ Blk wr w.heap.size 25 #[.int .i64 first, .slice A len cap] ∧ Below w.heap.size w wr
set_option maxRecDepth 100000 in
set_option maxHeartbeats 1000000 in
theorem rleast_any (first : Int) (A : Option Addr) (len cap : Nat) (zs : List (Int × Int)) (hv : LVal first zs) (s : Int) (w : World) (h : PrAt w A len zs) :
    Calls Try.prog 73 #[.agg #[.int .i64 first, .slice A len cap], .int .i64 s] w (fun e w' => ∃ L : Int, e = .returned (.int .i64 L) ∧ LeastP first zs s L ∧ Below w.heap.size w w') := by
  have HP := Lib.hid (fun i (i0 : 134217728 ≤ i) (i1 : i ≤ 288230376151711744) W (hW : Below w.heap.size w W) => rsmear_any first A len cap zs i hv (by omega) (by omega) W (h.below hW))
  have HV := Lib.hid hv; clear h hv
  go_enter Try.func73, Try.ntmps73
  go_wp2
  go_loopg [5, 6] 288230376151711745 (fun G i j wr => LsRel w first A len cap zs s G i j wr)
  case atStart => exact ⟨134217728, 288230376151711745, rfl, rfl, by omega, by omega, by omega, by omega, fun t a b => by omega, fun t a b => by omega, by (repeat' (first | ((with_reducible refine' Blk.newE ?_); first | rfl | (simp; done)) | (with_reducible refine' Blk.alloc ?_ _) | (with_reducible refine' Blk.drew ?_) | (with_reducible refine' Blk.drewN ?_ _) | (with_reducible refine' Blk.put ?_ ?_) | (with_reducible refine' Blk.far ?_ ?_ _) | exact rfl)) <;> (first | omega | (simp <;> omega)), by (repeat' (first | (with_reducible exact Below.refl _ _) | (with_reducible refine Below.setCell ?_ ?_ _) | (with_reducible refine Below.alloc ?_ ?_ _) | (with_reducible refine Below.drew ?_) | (with_reducible refine below_drewN ?_ _))) <;> (first | omega | (simp <;> omega))⟩
  case round =>
    obtain ⟨lo, hi, rfl, rfl, hl0, hlh, hhi, hG, h1, h2, bL, KR⟩ := hrel
    have ZR := KR.size
    have H1 := Lib.hid h1; have H2 := Lib.hid h2; clear h1 h2
    obtain ⟨cL, fL, lL, eL, kL⟩ := Blk.facts bL
    by_cases hlt : lo < hi
    · have gk : decide (lo < hi) = true := decide_eq_true (by omega)
      obtain ⟨m, hm⟩ : ∃ m : Int, m = (lo + hi) / 2 := ⟨_, rfl⟩
      have w1 : IntKind.i64.wrap (lo + hi) = lo + hi := IntWalk.i64_in _ (by omega)
      have w3 : (lo + hi).tdiv 2 = m := by rw [Int.tdiv_eq_ediv_of_nonneg (by omega)]; exact hm.symm
      have w5 : IntKind.i64.wrap m = m := IntWalk.i64_in _ (by omega)
      have w6 : IntKind.i64.wrap (m + 1) = m + 1 := IntWalk.i64_in _ (by omega)
      have hml : lo ≤ m := by omega
      have hmh : m < hi := by omega
      have HM := Lib.hid hm; clear hm
      have hc := HP.out m (by omega) (by omega)
      have hmono : ∀ a b, a ≤ b → shL first zs a ≤ shL first zs b := fun a b h => shL_mono HV.out h
      have HMO := Lib.hid hmono; clear hmono
      have HC := Lib.hid hc; clear hc
      by_cases hp : s ≤ shL first zs m
      · have gp : decide (s ≤ shL first zs m) = true := decide_eq_true hp
        have HPP := Lib.hid hp; clear hp
        obtain ⟨x, hx⟩ : ∃ x, shL first zs m = x := ⟨_, rfl⟩
        have HCX := Lib.hid (hx ▸ HC.out)
        rw [hx] at gp
        have HX := Lib.hid hx; clear hx
        go_wp2_with fail
        refine (HCX.out _ (by (repeat' (first | (with_reducible exact KR) | (with_reducible refine Below.setCell ?_ ?_ _) | (with_reducible refine Below.alloc ?_ ?_ _) | (with_reducible refine Below.drew ?_) | (with_reducible refine below_drewN ?_ _))) <;> (first | omega | (simp <;> omega)))).mono ?_
        rintro e w1 ⟨rfl, hb1⟩
        have K1 : Below w.heap.size w w1 := kept_call hb1 (by (repeat' (first | (with_reducible exact KR) | (with_reducible refine Below.setCell ?_ ?_ _) | (with_reducible refine Below.alloc ?_ ?_ _) | (with_reducible refine Below.drew ?_) | (with_reducible refine below_drewN ?_ _))) <;> (first | omega | (simp <;> omega)))
        have Z1 : w.heap.size ≤ w1.heap.size := K1.size
        have bL' := Blk.keep (g := w.heap.size) hb1 (by (repeat' (first | (with_reducible refine' Blk.alloc ?_ _) | (with_reducible refine' Blk.drew ?_) | (with_reducible refine' Blk.drewN ?_ _) | (with_reducible refine' Blk.put ?_ ?_) | (with_reducible refine' Blk.far ?_ ?_ _) | exact bL | exact rfl)) <;> (first | omega | (simp <;> omega)))
        (try simp only [List.setIfInBounds_toArray, List.set_cons_zero, List.set_cons_succ] at bL')
        clear hb1 KR
        clear bL cL fL lL eL kL; have bL := bL'; clear bL'
        obtain ⟨cL, fL, lL, eL, kL⟩ := Blk.facts bL
        go_wp2
        go_roundg (m - lo).toNat
        case measure => omega
        case rel => exact ⟨lo, m, rfl, rfl, by omega, by omega, by omega, by omega, H1.out, fun t a b => by have := HPP.out; have := HMO.out _ _ a; omega, by (repeat' (first | (with_reducible refine' Blk.alloc ?_ _) | (with_reducible refine' Blk.drew ?_) | (with_reducible refine' Blk.drewN ?_ _) | (with_reducible refine' Blk.put ?_ ?_) | (with_reducible refine' Blk.far ?_ ?_ _) | exact bL | exact rfl)) <;> (first | omega | (simp <;> omega)), by (repeat' (first | (with_reducible exact K1) | (with_reducible refine Below.setCell ?_ ?_ _) | (with_reducible refine Below.alloc ?_ ?_ _) | (with_reducible refine Below.drew ?_) | (with_reducible refine below_drewN ?_ _))) <;> (first | omega | (simp <;> omega))⟩
      · have gp : decide (s ≤ shL first zs m) = false := decide_eq_false hp
        have HPP := Lib.hid hp; clear hp
        obtain ⟨x, hx⟩ : ∃ x, shL first zs m = x := ⟨_, rfl⟩
        have HCX := Lib.hid (hx ▸ HC.out)
        rw [hx] at gp
        have HX := Lib.hid hx; clear hx
        go_wp2_with fail
        refine (HCX.out _ (by (repeat' (first | (with_reducible exact KR) | (with_reducible refine Below.setCell ?_ ?_ _) | (with_reducible refine Below.alloc ?_ ?_ _) | (with_reducible refine Below.drew ?_) | (with_reducible refine below_drewN ?_ _))) <;> (first | omega | (simp <;> omega)))).mono ?_
        rintro e w1 ⟨rfl, hb1⟩
        have K1 : Below w.heap.size w w1 := kept_call hb1 (by (repeat' (first | (with_reducible exact KR) | (with_reducible refine Below.setCell ?_ ?_ _) | (with_reducible refine Below.alloc ?_ ?_ _) | (with_reducible refine Below.drew ?_) | (with_reducible refine below_drewN ?_ _))) <;> (first | omega | (simp <;> omega)))
        have Z1 : w.heap.size ≤ w1.heap.size := K1.size
        have bL' := Blk.keep (g := w.heap.size) hb1 (by (repeat' (first | (with_reducible refine' Blk.alloc ?_ _) | (with_reducible refine' Blk.drew ?_) | (with_reducible refine' Blk.drewN ?_ _) | (with_reducible refine' Blk.put ?_ ?_) | (with_reducible refine' Blk.far ?_ ?_ _) | exact bL | exact rfl)) <;> (first | omega | (simp <;> omega)))
        (try simp only [List.setIfInBounds_toArray, List.set_cons_zero, List.set_cons_succ] at bL')
        clear hb1 KR
        clear bL cL fL lL eL kL; have bL := bL'; clear bL'
        obtain ⟨cL, fL, lL, eL, kL⟩ := Blk.facts bL
        go_wp2
        go_roundg (hi - (m + 1)).toNat
        case measure => omega
        case rel => exact ⟨m + 1, hi, rfl, rfl, by omega, by omega, by omega, by omega, fun t a b => by have := HPP.out; have := HMO.out t m (by omega); omega, H2.out, by (repeat' (first | (with_reducible refine' Blk.alloc ?_ _) | (with_reducible refine' Blk.drew ?_) | (with_reducible refine' Blk.drewN ?_ _) | (with_reducible refine' Blk.put ?_ ?_) | (with_reducible refine' Blk.far ?_ ?_ _) | exact bL | exact rfl)) <;> (first | omega | (simp <;> omega)), by (repeat' (first | (with_reducible exact K1) | (with_reducible refine Below.setCell ?_ ?_ _) | (with_reducible refine Below.alloc ?_ ?_ _) | (with_reducible refine Below.drew ?_) | (with_reducible refine below_drewN ?_ _))) <;> (first | omega | (simp <;> omega))⟩
    · obtain rfl : lo = hi := by omega
      have gk : decide (lo < lo) = false := decide_eq_false (by omega)
      go_wp2
      go_ret
      exact ⟨_, rfl, ⟨by omega, by omega, H1.out, H2.out⟩, by (repeat' (first | (with_reducible exact KR) | (with_reducible refine Below.setCell ?_ ?_ _) | (with_reducible refine Below.alloc ?_ ?_ _) | (with_reducible refine Below.drew ?_) | (with_reducible refine below_drewN ?_ _))) <;> (first | omega | (simp <;> omega))⟩
end Go.Proofs.Ytmebkbnildjfhaa
