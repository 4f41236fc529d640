/- The walk of SweepIgnoresOrder. -/
import Derived.BigQuiet
import Derived.Deep.QuietTactic
import Derived.Laws.AppendOwnNone
import Derived.Test.YtlfkkfdolnkjfaaCalmP
import Derived.Test.YtlfkkfdolnkjfaaJ13
import Derived.Test.YtlfkkfdolnkjfaaLaw34S
import Derived.Test.YtlfkkfdolnkjfaaLawCounts
import Derived.Test.YtlfkkfdolnkjfaaTapeB
namespace Go.Proofs.Ytlfkkfdolnkjfaa
open Go.RowKit Go.Shelf Go.Sort
set_option linter.unusedSimpArgs false
set_option linter.unusedVariables false

def OrRel (w2 : World) (g b n : Nat) (ss : List (Int × Int)) (i : Value) (G : Nat) (wr : World) : Prop := ∃ (p : Nat) (os : List (Int × Int)), p ≤ n ∧ G = n - p ∧ i = .int .i64 p ∧ os.length = n ∧ (∀ t, cntS os t = cntS ss t) ∧ SmallS 20 os ∧ (0 < n → OsAt wr g os) ∧ TapeB w2.heap.size wr b ∧ Below w2.heap.size w2 wr
def MvRel (w : World) (d : Int) (ss : List (Int × Int)) (v i : Value) (G : Nat) (wr : World) : Prop := ∃ p : Nat, p ≤ ss.length ∧ G = ss.length - p ∧ i = .int .i64 p ∧ (∃ A c, v = .slice A p c) ∧ wr.ownsRow w.heap.size 35 2 v p (cellsS ((ss.take p).map (mvS d))) ∧ Below w.heap.size w wr
def IdRel (w : World) (n : Nat) (i : Value) (G : Nat) (wr : World) : Prop := ∃ p : Nat, p ≤ n ∧ G = n - p ∧ i = .int .i64 p ∧ Below w.heap.size w wr
theorem moved_ck {ss : List (Int × Int)} {d : Int} (h : SmallS 20 ss) (hd : 0 ≤ d ∧ d < 1000) (hl : ss.length ≤ 64) : ckE (ss.map (mvS d)) = 0 :=
  ckE_0 (by rw [List.length_map]; omega) (bad_of fun z hz => by
    obtain ⟨y, hy, rfl⟩ := List.mem_map.1 hz
    have := h y hy
    exact vS_true.2 (by show -1152921504606846976 ≤ y.1 + d ∧ y.1 + d ≤ y.2 + d ∧ y.2 + d ≤ 1152921504606846976; omega))
theorem calm_opO {P : Program} {o : Oper} {a : Act} {w : World} {K : Act → World → Prop} {Q : Exit → Act → World → Prop} {b : Bool} {X : Prop} (hb : b = true) (h : o.wp P a w K Q) : if b = true then Oper.wp P o a w K Q else X := by rw [if_pos hb]; exact h
def OneM (X : Option Nat) (x y : Int) : List Value → Value → World → Prop := fun _ v w => ∃ g, v = .slice (some ⟨g, 0, none⟩) 1 1 ∧ some g ≠ X ∧ Blk w g 35 #[.int .i64 x, .int .i64 y]
theorem keep_oneM {X : Option Nat} {x y : Int} : ∀ d v w w', w.grownBy w' X → OneM X x y d v w → OneM X x y d v w' := fun _ _ _ _ h ⟨g, e, hn, hb⟩ => ⟨g, e, hn, (h.block g hb.lt hn).trans hb⟩
theorem own_succ {w : World} {base n : Nat} {v : Value} {xs : List Value} (h : w.ownsRow base 35 2 v (n + 1) xs) : ∃ A c, v = .slice A (n + 1) c := by
  obtain ⟨g, c, e, _⟩ := World.ownsRow.form h (by omega)
  exact ⟨_, _, e⟩
set_option maxRecDepth 100000 in
set_option maxHeartbeats 8000000 in
theorem order_walk (LA PA : Option Addr) (llen lcap plen pcap : Nat) (ls pl : List Int) (by_ : Int) (w : World) (k : IntsAt w LA llen ls) (k2 : IntsAt w PA plen pl) :
    Calls Try.prog 5 #[.slice LA llen lcap, .slice PA plen pcap, .int .i64 by_] w (RB w (.bool true)) := by
  have HK := Lib.hid (show Kp w w from Below.refl _ _)
  have HLI := Lib.hid k; have HPI := Lib.hid k2; clear k k2
  go_enter Try.func5, Try.ntmps5
  go_wp2_with fail
  refine (new_any LA llen lcap ls _ HLI.out).mono ?_
  rintro e w1 ⟨rfl, ht1, hb1⟩
  have Z1 := hb1.size
  have T1 := ht1.lt
  replace HK := Lib.hid (HK.out.below hb1)
  clear hb1
  have HT := Lib.hid ht1; clear ht1
  go_wp2_with fail
  refine (tspans_any _ 12 20 _ HT.out (by omega) (by omega) (by omega) (by omega)).mono ?_
  rintro e w2 ⟨A2, c2, ss, rfl, sl, sN, srow, ssm, -, hg2⟩
  have Z2 : w1.heap.size ≤ w2.heap.size := hg2.size
  have HK2 := Lib.hid (show Kp w w2 from below_grown HK.out.b hg2 (Nat.le_refl _) Z1)
  clear HK; have HK := HK2; clear HK2 HT hg2
  have ZW2 := HK.out.b.size
  have hss := spans_of_row srow (by omega)
  have HS := Lib.hid hss; have HSM := Lib.hid ssm; have HSN := Lib.hid sN; clear hss srow ssm sN
  have HPI2 := Lib.hid (HPI.out.below HK.out.b)
  clear HPI HLI
  have HKW := Lib.hid HK.out; have HSW := Lib.hid HS.out
  have hsl : ss.length ≤ 12 := by omega
  have hnn := HSN.out
  go_upto_region 2 with fail
  go_cut [8] (fun v wx => RowS wx w2.heap.size v ss ∧ Below w2.heap.size w2 wx)
  case first =>
    obtain ⟨i0, hif, hz0, hz1, hz2⟩ := info_parts infoSpan
    by_cases h0 : A2 = none
    · have hc0 := hnn h0
      have hl0 : ss.length = 0 := by
        by_cases e : 0 < ss.length
        · obtain ⟨bl, off, e2, -⟩ := HS.out.2.2 e
          rw [h0] at e2; cases e2
        · omega
      have hzn : ss = [] := List.length_eq_zero_iff.1 hl0
      subst h0; subst hzn; subst hc0
      go_wp2_with (at_builtin; refine wpList_append_own_none rfl _ _ 43 rfl w2.heap.size 35 i0 2 Try.underlying43 hif _ 0 [] rfl (World.ownsRow_nil _ _ _ _) rfl ?_)
      go_wp2_with fail
      go_meet
      exact ⟨RowS.nil, (by (repeat' (first | (with_reducible exact Below.refl _ _) | (with_reducible refine Below.setCell ?_ ?_ _) | (with_reducible refine Below.alloc ?_ ?_ _) | (with_reducible refine Below.drew ?_) | (with_reducible refine below_drewN ?_ _))) <;> (first | omega | (simp <;> omega)))⟩
    · obtain ⟨ad, rfl⟩ : ∃ ad, A2 = some ad := by
        cases A2 with
        | none => exact absurd rfl h0
        | some ad => exact ⟨ad, rfl⟩
      have hcl : ∀ j u, (cellsS ss)[j]? = some u → w2.cell? (ad.add j) = some u := by
        intro j u hu
        have hlt : j < ss.length * 2 := by rw [← cellsS_length]; exact (List.getElem?_eq_some_iff.1 hu).1
        obtain ⟨bl, off, e2, hb, hcs⟩ := HS.out.2.2 (by omega)
        obtain rfl : ad = ⟨bl, off, none⟩ := by injection e2
        exact cellsS_at hcs j u hu
      have HCL := Lib.hid hcl; clear hcl
      go_wp2_with (at_builtin; refine wpList_append_own _ rfl _ _ 43 rfl w2.heap.size 35 i0 (.agg #[.int .i64 0, .int .i64 0]) 2 16 Try.underlying43 hif hz0 hz1 hz2 rfl (by decide) _ 0 [] rfl (World.ownsRow_nil _ _ _ _) ad ss.length c2 (cellsS ss) rfl (cellsS_length ss) HCL.out cellsS_one ?c3 ?c4 ?c5 ?_)
      case c3 => unfold maxLen; omega
      case c4 => omega
      case c5 => simp; try omega
      intro v' w3 hown hgrow _
      have K2 : Below w2.heap.size w2 w3 := (Below.refl _ _).grown hgrow (by simp; try omega) (fun k hk => by simp [Value.ownBlock] at hk)
      have hrow : RowS w3 w2.heap.size v' ss := by
        unfold RowS
        first | exact hown | (rw [Nat.zero_add, List.nil_append] at hown; exact hown)
      clear hown hgrow
      have HROW := Lib.hid hrow; clear hrow
      go_wp2_with fail
      go_meet
      exact ⟨HROW.out, K2⟩
  case rest =>
    obtain ⟨hrow, K9⟩ := hcut
    have Z9 := K9.size
    obtain ⟨w9, rfl⟩ : ∃ x : World, x = wc := ⟨_, rfl⟩
    replace HK := Lib.hid (HK.out.below K9)
    replace HS := Lib.hid (HS.out.below K9)
    have HO := Lib.hid hrow
    have HK2 := Lib.hid (show Kp w2 w9 from K9)
    obtain ⟨A8, c8, hv8⟩ := RowS.len hrow
    clear hrow K9
    subst hv8
    have hg8 : ∃ g8, (0 < ss.length → A8 = some ⟨g8, 0, none⟩ ∧ w2.heap.size ≤ g8 ∧ g8 < w9.heap.size ∧ OsAt w9 g8 ss) ∧ g8 < w9.heap.size + 1 := by
      by_cases e : 0 < ss.length
      · obtain ⟨g, e1, e2, e3, e4⟩ := os_of_row HO.out e
        exact ⟨g, fun _ => ⟨e1, e2, e3, e4⟩, by omega⟩
      · exact ⟨0, fun h => absurd h e, by omega⟩
    obtain ⟨g8, hg8, hg8s⟩ := hg8
    have hA8 : 0 < ss.length → A8 = some ⟨g8, 0, none⟩ ∧ w2.heap.size ≤ g8 ∧ g8 < w9.heap.size := fun h => ⟨(hg8 h).1, (hg8 h).2.1, (hg8 h).2.2.1⟩
    have hO8 : 0 < ss.length → OsAt w9 g8 ss := fun h => (hg8 h).2.2.2
    have HA8 := Lib.hid hA8; have HO8 := Lib.hid hO8; clear hg8 hA8 hO8 HO
    go_wp2_with fail
    refine (new_anyB PA plen pcap pl w2 _ HPI2.out (HK2.out.below (by (repeat' (first | (with_reducible exact Below.refl _ _) | (with_reducible refine Below.setCell ?_ ?_ _) | (with_reducible refine Below.alloc ?_ ?_ _) | (with_reducible refine Below.drew ?_) | (with_reducible refine below_drewN ?_ _))) <;> (first | omega | (simp <;> omega))))).mono ?_
    rintro e w10 ⟨rfl, ht10, hb10⟩
    have Z10 := hb10.size
    have T10 := ht10.lt
    replace HK := Lib.hid (HK.out.below hb10)
    replace HS := Lib.hid (HS.out.below hb10)
    replace HK2 := Lib.hid (HK2.out.below hb10)
    have hO8 : 0 < ss.length → OsAt w10 g8 ss := fun h => (HO8.out h).below hb10
    clear HO8 hb10 HPI2
    obtain ⟨d, hd⟩ : ∃ d, by_ % 1000 = d := ⟨_, rfl⟩
    have d0 : 0 ≤ d := by omega
    have d1 : d < 1000 := by omega
    have RW := Lib.hid (fun W => hd ▸ within_any by_ 1000 W (by omega) (by omega))
    clear hd
    go_wp2_with fail
    refine (RW.out _).mono ?_
    rintro e w11 ⟨rfl, rfl⟩
    obtain ⟨b, hb⟩ : ∃ b, b = w9.heap.size := ⟨_, rfl⟩
    have b2 : w2.heap.size ≤ b := by omega
    have HG8 := Lib.hid (show 0 < ss.length → g8 < b from fun h => by have := HA8.out h; omega)
    rw [← hb] at ht10 T10 ⊢
    clear hb
    have HT := Lib.hid ht10; have HO8 := Lib.hid hO8; clear ht10 hO8
    go_wp2
    go_loopg [11] ss.length (fun G i wr => OrRel w2 g8 b ss.length ss i G wr)
    case atStart => exact ⟨0, ss, by omega, by omega, rfl, rfl, fun _ => rfl, HSM.out, HO8.out, HT.out, HK2.out.b⟩
    case round =>
      obtain ⟨p, os, hp, rfl, rfl, hol, hoc, hos, hoo, htr, KR⟩ := hrel
      have ZR := KR.size
      replace HK := Lib.hid (show Kp w wr from (show Kp w w2 from HKW.out).below KR)
      clear HT HO8
      replace HK2 := Lib.hid (show Kp w2 wr from KR)
      replace HS := Lib.hid (HSW.out.below KR)
      have HT := Lib.hid htr; have HOC := Lib.hid hoc; have HOS := Lib.hid hos; have HOO := Lib.hid hoo; have TR := htr.lt
      clear htr hoc hos hoo KR
      by_cases hlp : p < ss.length
      · have gp : decide ((p : Int) < (ss.length : Int)) = true := decide_eq_true (by omega)
        have gpn : decide (p < ss.length) = true := decide_eq_true hlp
        have wp : IntKind.i64.wrap ((p : Int) + 1) = ((p + 1 : Nat) : Int) := by rw [IntWalk.i64_in _ (by omega)]; omega
        obtain ⟨rfl, h82, -⟩ := HA8.out (by omega)
        have h8b := HG8.out (by omega)
        have HO := Lib.hid (HOO.out (by omega))
        clear HOO
        go_wp2_with fail
        refine (int_anyB w2.heap.size b (ss.length : Int) _ (HT.out.below (by (repeat' (first | (with_reducible exact Below.refl _ _) | (with_reducible refine Below.setCell ?_ ?_ _) | (with_reducible refine Below.alloc ?_ ?_ _) | (with_reducible refine Below.drew ?_) | (with_reducible refine below_drewN ?_ _))) <;> (first | omega | (simp <;> omega)))) (by omega) (by omega)).mono ?_
        rintro e w11 ⟨kv, rfl, kv0, kv1, ht, hg⟩
        have Z11 : wr.heap.size ≤ w11.heap.size := hg.size
        have hK11 : Below w2.heap.size w2 w11 := below_grown HK2.out.b hg b2 (by omega)
        have hO11 := HO.out.gb hg (by omega)
        obtain ⟨k, rfl⟩ : ∃ k : Nat, kv = (k : Int) := ⟨kv.toNat, by omega⟩
        have hk : k < ss.length := by omega
        have gk : decide ((k : Int) < (ss.length : Int)) = true := decide_eq_true (by omega)
        have gkn : decide (k < ss.length) = true := decide_eq_true hk
        have T11 := ht.lt
        have hl8 : g8 < w11.heap.size := (hO11.cells p (by omega)).1
        clear hg HT HO HK HK2
        have HSWP := Lib.hid (And.intro (fun t => cntS_swap t os p k (by omega) (by omega)) (HOS.out.swap p k (by omega) (by omega)))
        obtain ⟨z, hz⟩ : ∃ z, os.getD p (0, 0) = z := ⟨_, rfl⟩
        obtain ⟨y, hy⟩ : ∃ y, os.getD k (0, 0) = y := ⟨_, rfl⟩
        rw [hz, hy] at HSWP
        have HZ := Lib.hid hz; have HY := Lib.hid hy; clear hz hy
        have HOL := Lib.hid hol; clear hol
        have hT := ht; have hP := hK11; have hO := hO11
        clear ht hK11 hO11
        go_wp2_with fail
        refine' wp_region_calm (by kernel_rfl) (fun n _ w' => TapeB w2.heap.size w' b ∧ Below w2.heap.size w2 w' ∧ w11.heap.size ≤ w'.heap.size ∧ (n = 0 → OsAt w' g8 os) ∧ (n = 1 → OsAt w' g8 (os.set p y)) ∧ (n = 2 → OsAt w' g8 ((os.set p y).set k z))) (fun _ _ => True) [(Is _), (Is _), (Is _), (Is _), (Is _), (Is _), (Is _), (Is _), (Is _), (Is _), (Is _), (Is _), (Is _), (fun _ _ _ => True), (Is _), (fun _ _ _ => True)] [[], [], [], [], [], [], [4, 5], [6], [], [], [8, 9], [10], [0, 1], [12, 7], [2, 3], [14, 11]] [13, 15] [] rfl (by kernel_rfl) (fun u => by (simp only [calmPut, Act.put, List.setIfInBounds_toArray, List.set_cons_zero, List.set_cons_succ, Nat.zero_add, Nat.reduceAdd]; rfl)) ?_ (calmKeep_cons keep_is' (calmKeep_cons keep_is' (calmKeep_cons keep_is' (calmKeep_cons keep_is' (calmKeep_cons keep_is' (calmKeep_cons keep_is' (calmKeep_cons keep_is' (calmKeep_cons keep_is' (calmKeep_cons keep_is' (calmKeep_cons keep_is' (calmKeep_cons keep_is' (calmKeep_cons keep_is' (calmKeep_cons keep_is' (calmKeep_cons keep_triv (calmKeep_cons keep_is' (calmKeep_cons keep_triv (calmKeep_nil))))))))))))))))) ?_ ?_
        · intro _
          exact ⟨(hT.below (by (repeat' (first | (with_reducible exact Below.refl _ _) | (with_reducible refine Below.setCell ?_ ?_ _) | (with_reducible refine Below.alloc ?_ ?_ _) | (with_reducible refine Below.drew ?_) | (with_reducible refine below_drewN ?_ _))) <;> (first | omega | (simp <;> omega)))), (by (repeat' (first | (with_reducible exact hP) | (with_reducible refine Below.setCell ?_ ?_ _) | (with_reducible refine Below.alloc ?_ ?_ _) | (with_reducible refine Below.drew ?_) | (with_reducible refine below_drewN ?_ _))) <;> (first | omega | (simp <;> omega))), (by first | exact Nat.le_refl _ | simp), (fun _ => hO.below (by (repeat' (first | (with_reducible exact Below.refl _ _) | (with_reducible refine Below.setCell ?_ ?_ _) | (with_reducible refine Below.alloc ?_ ?_ _) | (with_reducible refine Below.drew ?_) | (with_reducible refine below_drewN ?_ _))) <;> (first | omega | (simp <;> omega)))), (fun h => absurd h (by decide)), (fun h => absurd h (by decide))⟩
        rotate_left 14
        · skip
          refine calmSteps_cons (fun u wq n hn hn2 hC hk K hK => ?_) ?_
          · obtain ⟨hT, hP, hS, h0, h1, h2⟩ := hC
            clear hk
            go_simp
            exact hK _ _ _ rfl ⟨hT, hP, hS, h0, h1, h2⟩ trivial rfl
          refine calmSteps_cons (fun u wq n hn hn2 hC hk K hK => ?_) ?_
          · obtain ⟨hT, hP, hS, h0, h1, h2⟩ := hC
            clear hk
            go_simp
            exact hK _ _ _ rfl ⟨hT, hP, hS, h0, h1, h2⟩ trivial rfl
          refine calmSteps_cons (fun u wq n hn hn2 hC hk K hK => ?_) ?_
          · obtain ⟨hT, hP, hS, h0, h1, h2⟩ := hC
            clear hk
            go_simp
            exact hK _ _ _ rfl ⟨hT, hP, hS, h0, h1, h2⟩ trivial rfl
          refine calmSteps_cons (fun u wq n hn hn2 hC hk K hK => ?_) ?_
          · obtain ⟨hT, hP, hS, h0, h1, h2⟩ := hC
            clear hk
            go_simp
            exact hK _ _ _ rfl ⟨hT, hP, hS, h0, h1, h2⟩ trivial rfl
          refine calmSteps_cons (fun u wq n hn hn2 hC hk K hK => ?_) ?_
          · obtain ⟨hT, hP, hS, h0, h1, h2⟩ := hC
            clear hk
            go_simp
            exact hK _ _ _ rfl ⟨hT, hP, hS, h0, h1, h2⟩ trivial rfl
          refine calmSteps_cons (fun u wq n hn hn2 hC hk K hK => ?_) ?_
          · obtain ⟨hT, hP, hS, h0, h1, h2⟩ := hC
            clear hk
            go_simp
            exact hK _ _ _ rfl ⟨hT, hP, hS, h0, h1, h2⟩ trivial rfl
          refine calmSteps_cons (fun u wq n hn hn2 hC hk K hK => ?_) ?_
          · obtain ⟨hT, hP, hS, h0, h1, h2⟩ := hC
            simp only [calmKnown, List.getElem?_cons_zero, List.getElem?_cons_succ, and_true, Is, Pure, Option.some.injEq, List.getD_cons_zero, List.getD_cons_succ, List.map_cons, List.map_nil] at hk
            obtain ⟨h4, h5⟩ := hk
            simp only [h4, h5] at hK ⊢
            have H4 := Lib.hid h4; clear h4; have H5 := Lib.hid h5; clear h5
            go_simp
            exact hK _ _ _ rfl ⟨hT, hP, hS, h0, h1, h2⟩ trivial rfl
          refine calmSteps_cons (fun u wq n hn hn2 hC hk K hK => ?_) ?_
          · obtain ⟨hT, hP, hS, h0, h1, h2⟩ := hC
            simp only [calmKnown, List.getElem?_cons_zero, List.getElem?_cons_succ, and_true, Is, Pure, Option.some.injEq, List.getD_cons_zero, List.getD_cons_succ, List.map_cons, List.map_nil] at hk
            have h6 := hk; clear hk
            simp only [h6] at hK ⊢
            have H6 := Lib.hid h6; clear h6
            have hn0 : n = 0 := Nat.le_zero.1 (hn2 0 13 rfl (by kernel_rfl))
            obtain ⟨y9, y0, y1, -⟩ := (h0 hn0).cells k (by have := HOL.out; omega)
            rw [HY.out] at y0 y1
            go_simp
            exact hK _ _ _ rfl ⟨hT, hP, hS, h0, h1, h2⟩ trivial rfl
          refine calmSteps_cons (fun u wq n hn hn2 hC hk K hK => ?_) ?_
          · obtain ⟨hT, hP, hS, h0, h1, h2⟩ := hC
            clear hk
            go_simp
            exact hK _ _ _ rfl ⟨hT, hP, hS, h0, h1, h2⟩ trivial rfl
          refine calmSteps_cons (fun u wq n hn hn2 hC hk K hK => ?_) ?_
          · obtain ⟨hT, hP, hS, h0, h1, h2⟩ := hC
            clear hk
            go_simp
            exact hK _ _ _ rfl ⟨hT, hP, hS, h0, h1, h2⟩ trivial rfl
          refine calmSteps_cons (fun u wq n hn hn2 hC hk K hK => ?_) ?_
          · obtain ⟨hT, hP, hS, h0, h1, h2⟩ := hC
            simp only [calmKnown, List.getElem?_cons_zero, List.getElem?_cons_succ, and_true, Is, Pure, Option.some.injEq, List.getD_cons_zero, List.getD_cons_succ, List.map_cons, List.map_nil] at hk
            obtain ⟨h8, h9⟩ := hk
            simp only [h8, h9] at hK ⊢
            have H8 := Lib.hid h8; clear h8; have H9 := Lib.hid h9; clear h9
            go_simp
            exact hK _ _ _ rfl ⟨hT, hP, hS, h0, h1, h2⟩ trivial rfl
          refine calmSteps_cons (fun u wq n hn hn2 hC hk K hK => ?_) ?_
          · obtain ⟨hT, hP, hS, h0, h1, h2⟩ := hC
            simp only [calmKnown, List.getElem?_cons_zero, List.getElem?_cons_succ, and_true, Is, Pure, Option.some.injEq, List.getD_cons_zero, List.getD_cons_succ, List.map_cons, List.map_nil] at hk
            have h10 := hk; clear hk
            simp only [h10] at hK ⊢
            have H10 := Lib.hid h10; clear h10
            have hn0 : n = 0 := Nat.le_zero.1 (hn2 0 13 rfl (by kernel_rfl))
            obtain ⟨y9, y0, y1, -⟩ := (h0 hn0).cells p (by have := HOL.out; omega)
            rw [HZ.out] at y0 y1
            go_simp
            exact hK _ _ _ rfl ⟨hT, hP, hS, h0, h1, h2⟩ trivial rfl
          refine calmSteps_cons (fun u wq n hn hn2 hC hk K hK => ?_) ?_
          · obtain ⟨hT, hP, hS, h0, h1, h2⟩ := hC
            simp only [calmKnown, List.getElem?_cons_zero, List.getElem?_cons_succ, and_true, Is, Pure, Option.some.injEq, List.getD_cons_zero, List.getD_cons_succ, List.map_cons, List.map_nil] at hk
            obtain ⟨h0, h1⟩ := hk
            simp only [h0, h1] at hK ⊢
            have H0 := Lib.hid h0; clear h0; have H1 := Lib.hid h1; clear h1
            go_simp
            exact hK _ _ _ rfl ⟨hT, hP, hS, h0, h1, h2⟩ trivial rfl
          refine calmSteps_cons (fun u wq n hn hn2 hC hk K hK => ?_) ?_
          · obtain ⟨hT, hP, hS, h0, h1, h2⟩ := hC
            simp only [calmKnown, List.getElem?_cons_zero, List.getElem?_cons_succ, and_true, Is, Pure, Option.some.injEq, List.getD_cons_zero, List.getD_cons_succ, List.map_cons, List.map_nil] at hk
            obtain ⟨h12, h7⟩ := hk
            simp only [h12, h7] at hK ⊢
            have H12 := Lib.hid h12; clear h12; have H7 := Lib.hid h7; clear h7
            obtain rfl := hn 0 rfl
            have hq := h0 rfl
            clear h0 h1 h2
            obtain ⟨y9, y0, y1, yf⟩ := hq.cells p (by have := HOL.out; omega)
            have hq2 := hq.set p y (by have := HOL.out; omega)
            go_simp
            exact hK _ undef _ rfl ⟨(hT.set h82 (Nat.ne_of_lt h8b) _).set h82 (Nat.ne_of_lt h8b) _, (hP.setCell h82 _).setCell h82 _, by simpa [World.setCell] using hS, (fun h => absurd h (by decide)), (fun _ => hq2), (fun h => absurd h (by decide))⟩ trivial trivial
          refine calmSteps_cons (fun u wq n hn hn2 hC hk K hK => ?_) ?_
          · obtain ⟨hT, hP, hS, h0, h1, h2⟩ := hC
            simp only [calmKnown, List.getElem?_cons_zero, List.getElem?_cons_succ, and_true, Is, Pure, Option.some.injEq, List.getD_cons_zero, List.getD_cons_succ, List.map_cons, List.map_nil] at hk
            obtain ⟨h2, h3⟩ := hk
            simp only [h2, h3] at hK ⊢
            have H2 := Lib.hid h2; clear h2; have H3 := Lib.hid h3; clear h3
            go_simp
            exact hK _ _ _ rfl ⟨hT, hP, hS, h0, h1, h2⟩ trivial rfl
          refine calmSteps_cons (fun u wq n hn hn2 hC hk K hK => ?_) ?_
          · obtain ⟨hT, hP, hS, h0, h1, h2⟩ := hC
            simp only [calmKnown, List.getElem?_cons_zero, List.getElem?_cons_succ, and_true, Is, Pure, Option.some.injEq, List.getD_cons_zero, List.getD_cons_succ, List.map_cons, List.map_nil] at hk
            obtain ⟨h14, h11⟩ := hk
            simp only [h14, h11] at hK ⊢
            have H14 := Lib.hid h14; clear h14; have H11 := Lib.hid h11; clear h11
            obtain rfl := hn 1 rfl
            have hq := h1 rfl
            clear h0 h1 h2
            obtain ⟨y9, y0, y1, yf⟩ := hq.cells k (by have := HOL.out; rw [List.length_set]; omega)
            have hq2 := hq.set k z (by have := HOL.out; rw [List.length_set]; omega)
            go_simp
            exact hK _ undef _ rfl ⟨(hT.set h82 (Nat.ne_of_lt h8b) _).set h82 (Nat.ne_of_lt h8b) _, (hP.setCell h82 _).setCell h82 _, by simpa [World.setCell] using hS, (fun h => absurd h (by decide)), (fun h => absurd h (by decide)), (fun _ => hq2)⟩ trivial trivial
          exact calmSteps_nil
        · intro u w12 hC hF
          obtain ⟨hT, hP, hS, -, -, h2⟩ := hC
          have h2 := h2 rfl
          clear hF
          have HT := Lib.hid hT; have HP := Lib.hid hP; have H2 := Lib.hid h2; clear hT hP h2 hO
          go_wp2
          go_roundg (ss.length - (p + 1))
          case measure => omega
          case rel => exact ⟨p + 1, (os.set p y).set k z, by omega, by omega, by go_num, by rw [List.length_set, List.length_set]; exact HOL.out, fun t => (HSWP.out.1 t).trans (HOC.out t), HSWP.out.2, fun _ => H2.out, HT.out, HP.out⟩
      · obtain rfl : p = ss.length := by omega
        have gp : decide ((ss.length : Int) < (ss.length : Int)) = false := decide_eq_false (by omega)
        have hspo : SpansAt wr A8 ss.length os := by
          by_cases e : 0 < ss.length
          · obtain ⟨rfl, -, -⟩ := HA8.out e
            have := (HOO.out e).spans (by omega)
            rw [hol] at this; exact this
          · exact ⟨hol, by omega, fun h => absurd h e⟩
        have HO := Lib.hid hspo
        have hck := small_ck HSM.out (by omega) (by omega)
        have hco := small_ck HOS.out (by omega) (by omega)
        have hcm := moved_ck HSM.out ⟨d0, d1⟩ (by omega)
        have HCK := Lib.hid hck; have HCO := Lib.hid hco; have HCM := Lib.hid hcm
        clear hspo hck hco hcm HOO HA8 HG8 HT HOS
        go_wp2
        obtain ⟨w13, rfl⟩ : ∃ x : World, x = wr := ⟨_, rfl⟩
        have Zw13 : w.heap.size ≤ w13.heap.size := HK.out.b.size
        go_loopg [13, 14] ss.length (fun G v i wr => MvRel w13 d ss v i G wr)
        case atStart => exact ⟨0, by omega, by omega, rfl, ⟨none, 0, rfl⟩, World.ownsRow_nil _ _ _ _, Below.refl _ _⟩
        case round =>
          obtain ⟨p, hp, rfl, rfl, ⟨A0, c0, rfl⟩, hrow, KM⟩ := hrel
          have ZM := KM.size
          by_cases hlp : p < ss.length
          · have gp : decide ((p : Int) < (ss.length : Int)) = true := decide_eq_true (by omega)
            have gpn : decide (p < ss.length) = true := decide_eq_true hlp
            have wp : IntKind.i64.wrap ((p : Int) + 1) = ((p + 1 : Nat) : Int) := by rw [IntWalk.i64_in _ (by omega)]; omega
            obtain ⟨bl, off, rfl, hbl, hcs⟩ := HS.out.2.2 (by omega)
            obtain ⟨e0, e1⟩ := hcs p hlp
            clear hcs
            have hsz := HSM.out (ss.getD p (0, 0)) (by rw [List.getD_eq_getElem?_getD, List.getElem?_eq_getElem hlp]; exact List.getElem_mem _)
            have hst : cellsS ((ss.take (p + 1)).map (mvS d)) = cellsS ((ss.take p).map (mvS d)) ++ [.int .i64 ((ss.getD p (0, 0)).1 + d), .int .i64 ((ss.getD p (0, 0)).2 + d)] := by rw [take_nextS ss p hlp, List.map_append, List.map_cons, List.map_nil, cellsS_snoc]; rfl
            generalize ss.getD p (0, 0) = z at e0 e1 hsz hst
            obtain ⟨lo, hi⟩ := z
            dsimp only at e0 e1 hsz hst
            have wl : IntKind.i64.wrap (lo + d) = lo + d := IntWalk.i64_in _ (by omega)
            have wh : IntKind.i64.wrap (hi + d) = hi + d := IntWalk.i64_in _ (by omega)
            obtain ⟨s0, hs0⟩ : ∃ s0, lo + d = s0 := ⟨_, rfl⟩
            obtain ⟨s1, hs1⟩ : ∃ s1, hi + d = s1 := ⟨_, rfl⟩
            rw [hs0, hs1] at hst
            replace wl := wl.trans hs0
            replace wh := wh.trans hs1
            have HST := Lib.hid hst; clear hst hs0 hs1 hsz
            have E0 : ∀ W, Below w13.heap.size w13 W → W.cell? ⟨bl, off + p * 2, none⟩ = some (.int .i64 lo) := fun W h => (h.cell (p := ⟨bl, off + p * 2, none⟩) hbl).trans e0
            have E1 : ∀ W, Below w13.heap.size w13 W → W.cell? ⟨bl, off + p * 2 + 1, none⟩ = some (.int .i64 hi) := fun W h => (h.cell (p := ⟨bl, off + p * 2 + 1, none⟩) hbl).trans e1
            clear e0 e1
            obtain ⟨i0, hi', hz0, hz1, hz2⟩ := info_parts infoSpan
            generalize cellsS ((ss.take p).map (mvS d)) = xs at *
            generalize hX : (Value.slice A0 p c0).ownBlock = X
            have hXl : ∀ k, X = some k → k < wr.heap.size := fun k hk => (hrow.lt k (hX.trans hk)).2
            generalize hv : Value.slice A0 p c0 = v at *
            have HV := Lib.hid hv; clear hv
            go_wp2_with fail
            refine' wp_region_calmS (by kernel_rfl) (fun n us w' => Below w13.heap.size w13 w' ∧ wr.heap.size ≤ w'.heap.size ∧ (n = 0 → w'.ownsRow w13.heap.size 35 2 v p xs) ∧ (n ≤ 1 → us[1]? = some v) ∧ (1 ≤ n → ∃ A c, us[0]? = some (.slice A (p + 1) c) ∧ w'.ownsRow w13.heap.size 35 2 (.slice A (p + 1) c) (p + 1) (xs ++ [.int .i64 s0, .int .i64 s1])) ∧ (n = 2 → us[1]? = us[0]?)) (fun w w' => w.grownBy w' X) [(Is _), (Is _), (Is _), (Is _), (Is _), (Is _), (Is _), (Is _), (Is _), (Is _), (Is _), (Is _), (Is _), (Is _), (Is _), (Is _), (OneM X s0 s1), (fun _ _ _ => True), (fun _ _ _ => True)] [[], [], [], [1, 2], [3], [4], [], [5, 6], [], [], [8, 9], [10], [11], [], [12, 13], [7, 14], [15], [0, 16], [17]] [17, 18] [17, 18] rfl (by kernel_rfl) (fun u => by (simp only [calmPut, Act.put, List.setIfInBounds_toArray, List.set_cons_zero, List.set_cons_succ, Nat.zero_add, Nat.reduceAdd]; rfl)) ?_ (calmKeep_cons keep_is' (calmKeep_cons keep_is' (calmKeep_cons keep_is' (calmKeep_cons keep_is' (calmKeep_cons keep_is' (calmKeep_cons keep_is' (calmKeep_cons keep_is' (calmKeep_cons keep_is' (calmKeep_cons keep_is' (calmKeep_cons keep_is' (calmKeep_cons keep_is' (calmKeep_cons keep_is' (calmKeep_cons keep_is' (calmKeep_cons keep_is' (calmKeep_cons keep_is' (calmKeep_cons keep_is' (calmKeep_cons keep_oneM (calmKeep_cons keep_triv (calmKeep_cons keep_triv (calmKeep_nil)))))))))))))))))))) ?_ ?_
            · skip
              exact ⟨(by (repeat' (first | (with_reducible exact KM) | (with_reducible refine Below.setCell ?_ ?_ _) | (with_reducible refine Below.alloc ?_ ?_ _) | (with_reducible refine Below.drew ?_) | (with_reducible refine below_drewN ?_ _))) <;> (first | omega | (simp <;> omega))), (by first | exact Nat.le_refl _ | simp), fun _ => hrow, fun _ => rfl, fun h => absurd h (by decide), fun h => absurd h (by decide)⟩
            rotate_left 16
            · skip
              refine calmSteps_cons (fun u wq n hn hn2 hC hk K hK => ?_) ?_
              · obtain ⟨hP, hS, hR, hU, hM, hE⟩ := hC
                clear hk
                obtain rfl : n = 0 := Nat.le_zero.1 (hn2 0 17 rfl (by kernel_rfl)); replace hR := hR rfl
                have hu : u 18 = v := Option.some.inj (show some (u 18) = some v from hU (by decide))
                simp only [hu] at hK ⊢
                have HU := Lib.hid hu; clear hu
                go_simp
                exact hK _ _ _ rfl ⟨hP, hS, fun _ => hR, hU, fun h => absurd h (by decide), fun h => absurd h (by decide)⟩ (grown_drewN _ 0 _) rfl
              refine calmSteps_cons (fun u wq n hn hn2 hC hk K hK => ?_) ?_
              · obtain ⟨hP, hS, hR, hU, hM, hE⟩ := hC
                clear hk
                obtain rfl : n = 0 := Nat.le_zero.1 (hn2 0 17 rfl (by kernel_rfl)); replace hR := hR rfl
                go_simp
                exact hK _ _ _ rfl ⟨hP, hS, fun _ => hR, hU, fun h => absurd h (by decide), fun h => absurd h (by decide)⟩ (grown_drewN _ 0 _) rfl
              refine calmSteps_cons (fun u wq n hn hn2 hC hk K hK => ?_) ?_
              · obtain ⟨hP, hS, hR, hU, hM, hE⟩ := hC
                clear hk
                obtain rfl : n = 0 := Nat.le_zero.1 (hn2 0 17 rfl (by kernel_rfl)); replace hR := hR rfl
                go_simp
                exact hK _ _ _ rfl ⟨hP, hS, fun _ => hR, hU, fun h => absurd h (by decide), fun h => absurd h (by decide)⟩ (grown_drewN _ 0 _) rfl
              refine calmSteps_cons (fun u wq n hn hn2 hC hk K hK => ?_) ?_
              · obtain ⟨hP, hS, hR, hU, hM, hE⟩ := hC
                simp only [calmKnown, List.getElem?_cons_zero, List.getElem?_cons_succ, and_true, Is, Pure, Option.some.injEq, List.getD_cons_zero, List.getD_cons_succ, List.map_cons, List.map_nil] at hk
                obtain ⟨h1, h2⟩ := hk
                simp only [h1, h2] at hK ⊢
                have H1 := Lib.hid h1; clear h1; have H2 := Lib.hid h2; clear h2
                obtain rfl : n = 0 := Nat.le_zero.1 (hn2 0 17 rfl (by kernel_rfl)); replace hR := hR rfl
                go_simp
                exact hK _ _ _ rfl ⟨hP, hS, fun _ => hR, hU, fun h => absurd h (by decide), fun h => absurd h (by decide)⟩ (grown_drewN _ 0 _) rfl
              refine calmSteps_cons (fun u wq n hn hn2 hC hk K hK => ?_) ?_
              · obtain ⟨hP, hS, hR, hU, hM, hE⟩ := hC
                simp only [calmKnown, List.getElem?_cons_zero, List.getElem?_cons_succ, and_true, Is, Pure, Option.some.injEq, List.getD_cons_zero, List.getD_cons_succ, List.map_cons, List.map_nil] at hk
                have h3 := hk; clear hk
                simp only [h3] at hK ⊢
                have H3 := Lib.hid h3; clear h3
                obtain rfl : n = 0 := Nat.le_zero.1 (hn2 0 17 rfl (by kernel_rfl)); replace hR := hR rfl
                go_simp
                exact hK _ _ _ rfl ⟨hP, hS, fun _ => hR, hU, fun h => absurd h (by decide), fun h => absurd h (by decide)⟩ (grown_drewN _ 0 _) rfl
              refine calmSteps_cons (fun u wq n hn hn2 hC hk K hK => ?_) ?_
              · obtain ⟨hP, hS, hR, hU, hM, hE⟩ := hC
                simp only [calmKnown, List.getElem?_cons_zero, List.getElem?_cons_succ, and_true, Is, Pure, Option.some.injEq, List.getD_cons_zero, List.getD_cons_succ, List.map_cons, List.map_nil] at hk
                have h4 := hk; clear hk
                simp only [h4] at hK ⊢
                have H4 := Lib.hid h4; clear h4
                obtain rfl : n = 0 := Nat.le_zero.1 (hn2 0 17 rfl (by kernel_rfl)); replace hR := hR rfl
                have z := E0 _ hP
                go_simp
                exact hK _ _ _ rfl ⟨hP, hS, fun _ => hR, hU, fun h => absurd h (by decide), fun h => absurd h (by decide)⟩ (grown_drewN _ 0 _) rfl
              refine calmSteps_cons (fun u wq n hn hn2 hC hk K hK => ?_) ?_
              · obtain ⟨hP, hS, hR, hU, hM, hE⟩ := hC
                clear hk
                obtain rfl : n = 0 := Nat.le_zero.1 (hn2 0 17 rfl (by kernel_rfl)); replace hR := hR rfl
                go_simp
                exact hK _ _ _ rfl ⟨hP, hS, fun _ => hR, hU, fun h => absurd h (by decide), fun h => absurd h (by decide)⟩ (grown_drewN _ 0 _) rfl
              refine calmSteps_cons (fun u wq n hn hn2 hC hk K hK => ?_) ?_
              · obtain ⟨hP, hS, hR, hU, hM, hE⟩ := hC
                simp only [calmKnown, List.getElem?_cons_zero, List.getElem?_cons_succ, and_true, Is, Pure, Option.some.injEq, List.getD_cons_zero, List.getD_cons_succ, List.map_cons, List.map_nil] at hk
                obtain ⟨h5, h6⟩ := hk
                simp only [h5, h6] at hK ⊢
                have H5 := Lib.hid h5; clear h5; have H6 := Lib.hid h6; clear h6
                obtain rfl : n = 0 := Nat.le_zero.1 (hn2 0 17 rfl (by kernel_rfl)); replace hR := hR rfl
                go_simp
                exact hK _ _ _ rfl ⟨hP, hS, fun _ => hR, hU, fun h => absurd h (by decide), fun h => absurd h (by decide)⟩ (grown_drewN _ 0 _) rfl
              refine calmSteps_cons (fun u wq n hn hn2 hC hk K hK => ?_) ?_
              · obtain ⟨hP, hS, hR, hU, hM, hE⟩ := hC
                clear hk
                obtain rfl : n = 0 := Nat.le_zero.1 (hn2 0 17 rfl (by kernel_rfl)); replace hR := hR rfl
                go_simp
                exact hK _ _ _ rfl ⟨hP, hS, fun _ => hR, hU, fun h => absurd h (by decide), fun h => absurd h (by decide)⟩ (grown_drewN _ 0 _) rfl
              refine calmSteps_cons (fun u wq n hn hn2 hC hk K hK => ?_) ?_
              · obtain ⟨hP, hS, hR, hU, hM, hE⟩ := hC
                clear hk
                obtain rfl : n = 0 := Nat.le_zero.1 (hn2 0 17 rfl (by kernel_rfl)); replace hR := hR rfl
                go_simp
                exact hK _ _ _ rfl ⟨hP, hS, fun _ => hR, hU, fun h => absurd h (by decide), fun h => absurd h (by decide)⟩ (grown_drewN _ 0 _) rfl
              refine calmSteps_cons (fun u wq n hn hn2 hC hk K hK => ?_) ?_
              · obtain ⟨hP, hS, hR, hU, hM, hE⟩ := hC
                simp only [calmKnown, List.getElem?_cons_zero, List.getElem?_cons_succ, and_true, Is, Pure, Option.some.injEq, List.getD_cons_zero, List.getD_cons_succ, List.map_cons, List.map_nil] at hk
                obtain ⟨h8, h9⟩ := hk
                simp only [h8, h9] at hK ⊢
                have H8 := Lib.hid h8; clear h8; have H9 := Lib.hid h9; clear h9
                obtain rfl : n = 0 := Nat.le_zero.1 (hn2 0 17 rfl (by kernel_rfl)); replace hR := hR rfl
                go_simp
                exact hK _ _ _ rfl ⟨hP, hS, fun _ => hR, hU, fun h => absurd h (by decide), fun h => absurd h (by decide)⟩ (grown_drewN _ 0 _) rfl
              refine calmSteps_cons (fun u wq n hn hn2 hC hk K hK => ?_) ?_
              · obtain ⟨hP, hS, hR, hU, hM, hE⟩ := hC
                simp only [calmKnown, List.getElem?_cons_zero, List.getElem?_cons_succ, and_true, Is, Pure, Option.some.injEq, List.getD_cons_zero, List.getD_cons_succ, List.map_cons, List.map_nil] at hk
                have h10 := hk; clear hk
                simp only [h10] at hK ⊢
                have H10 := Lib.hid h10; clear h10
                obtain rfl : n = 0 := Nat.le_zero.1 (hn2 0 17 rfl (by kernel_rfl)); replace hR := hR rfl
                go_simp
                exact hK _ _ _ rfl ⟨hP, hS, fun _ => hR, hU, fun h => absurd h (by decide), fun h => absurd h (by decide)⟩ (grown_drewN _ 0 _) rfl
              refine calmSteps_cons (fun u wq n hn hn2 hC hk K hK => ?_) ?_
              · obtain ⟨hP, hS, hR, hU, hM, hE⟩ := hC
                simp only [calmKnown, List.getElem?_cons_zero, List.getElem?_cons_succ, and_true, Is, Pure, Option.some.injEq, List.getD_cons_zero, List.getD_cons_succ, List.map_cons, List.map_nil] at hk
                have h11 := hk; clear hk
                simp only [h11] at hK ⊢
                have H11 := Lib.hid h11; clear h11
                obtain rfl : n = 0 := Nat.le_zero.1 (hn2 0 17 rfl (by kernel_rfl)); replace hR := hR rfl
                have z := E1 _ hP
                go_simp
                exact hK _ _ _ rfl ⟨hP, hS, fun _ => hR, hU, fun h => absurd h (by decide), fun h => absurd h (by decide)⟩ (grown_drewN _ 0 _) rfl
              refine calmSteps_cons (fun u wq n hn hn2 hC hk K hK => ?_) ?_
              · obtain ⟨hP, hS, hR, hU, hM, hE⟩ := hC
                clear hk
                obtain rfl : n = 0 := Nat.le_zero.1 (hn2 0 17 rfl (by kernel_rfl)); replace hR := hR rfl
                go_simp
                exact hK _ _ _ rfl ⟨hP, hS, fun _ => hR, hU, fun h => absurd h (by decide), fun h => absurd h (by decide)⟩ (grown_drewN _ 0 _) rfl
              refine calmSteps_cons (fun u wq n hn hn2 hC hk K hK => ?_) ?_
              · obtain ⟨hP, hS, hR, hU, hM, hE⟩ := hC
                simp only [calmKnown, List.getElem?_cons_zero, List.getElem?_cons_succ, and_true, Is, Pure, Option.some.injEq, List.getD_cons_zero, List.getD_cons_succ, List.map_cons, List.map_nil] at hk
                obtain ⟨h12, h13⟩ := hk
                simp only [h12, h13] at hK ⊢
                have H12 := Lib.hid h12; clear h12; have H13 := Lib.hid h13; clear h13
                obtain rfl : n = 0 := Nat.le_zero.1 (hn2 0 17 rfl (by kernel_rfl)); replace hR := hR rfl
                go_simp
                exact hK _ _ _ rfl ⟨hP, hS, fun _ => hR, hU, fun h => absurd h (by decide), fun h => absurd h (by decide)⟩ (grown_drewN _ 0 _) rfl
              refine calmSteps_cons (fun u wq n hn hn2 hC hk K hK => ?_) ?_
              · obtain ⟨hP, hS, hR, hU, hM, hE⟩ := hC
                simp only [calmKnown, List.getElem?_cons_zero, List.getElem?_cons_succ, and_true, Is, Pure, Option.some.injEq, List.getD_cons_zero, List.getD_cons_succ, List.map_cons, List.map_nil] at hk
                obtain ⟨h7, h14⟩ := hk
                simp only [h7, h14] at hK ⊢
                have H7 := Lib.hid h7; clear h7; have H14 := Lib.hid h14; clear h14
                obtain rfl : n = 0 := Nat.le_zero.1 (hn2 0 17 rfl (by kernel_rfl)); replace hR := hR rfl
                go_simp
                exact hK _ _ _ rfl ⟨hP, hS, fun _ => hR, hU, fun h => absurd h (by decide), fun h => absurd h (by decide)⟩ (grown_drewN _ 0 _) rfl
              refine calmSteps_cons (fun u wq n hn hn2 hC hk K hK => ?_) ?_
              · obtain ⟨hP, hS, hR, hU, hM, hE⟩ := hC
                simp only [calmKnown, List.getElem?_cons_zero, List.getElem?_cons_succ, and_true, Is, Pure, Option.some.injEq, List.getD_cons_zero, List.getD_cons_succ, List.map_cons, List.map_nil] at hk
                have h15 := hk; clear hk
                simp only [h15] at hK ⊢
                have H15 := Lib.hid h15; clear h15
                obtain rfl : n = 0 := Nat.le_zero.1 (hn2 0 17 rfl (by kernel_rfl)); replace hR := hR rfl
                go_simp
                exact hK _ _ _ rfl ⟨hP.alloc hP.size _, by simp; omega, fun _ => hR.alloc _, hU, fun h => absurd h (by decide), fun h => absurd h (by decide)⟩ (grown_below ((Below.refl _ _).alloc (Nat.le_refl _) _)) ⟨wq.heap.size, rfl, fun e => absurd (hXl _ e.symm) (by omega), (by first | exact Blk.new _ _ _ | (rw [← wl, ← wh]; exact Blk.new _ _ _))⟩
              refine calmSteps_cons (fun u wq n hn hn2 hC hk K hK => ?_) ?_
              · obtain ⟨hP, hS, hR, hU, hM, hE⟩ := hC
                simp only [calmKnown, List.getElem?_cons_zero, List.getElem?_cons_succ, and_true, Is, Pure, Option.some.injEq, List.getD_cons_zero, List.getD_cons_succ, List.map_cons, List.map_nil] at hk
                obtain ⟨h0, ⟨g, h16, hgX, hgB⟩⟩ := hk
                simp only [h0, h16] at hK ⊢
                have H0 := Lib.hid h0; clear h0; have H16 := Lib.hid h16; clear h16
                obtain rfl := hn 0 rfl
                replace hR := hR rfl
                refine calm_opO (by rfl) ?_
                refine wp_append_own _ _ _ 43 rfl w13.heap.size 35 i0 (.agg #[.int .i64 0, .int .i64 0]) 2 16 Try.underlying43 hi' hz0 hz1 hz2 rfl (by decide) v p xs rfl hR ⟨g, 0, none⟩ 1 1 [.int .i64 s0, .int .i64 s1] rfl rfl (World.news_of_block (t := 35) (fr := (0, 0)) hgB) (by simp [Value.oneCell']) (by unfold maxLen; omega) (by omega) hP.size ?_
                intro v' w' hown' hgrow _
                obtain ⟨g', c', rfl⟩ := own_succ hown'
                rw [hX] at hgrow
                exact hK _ _ _ rfl ⟨hP.grown hgrow hP.size (fun k hk => (hR.lt k (hX.trans hk)).1), Nat.le_trans hS hgrow.size, fun h => absurd h (by decide), fun _ => hU (by decide), fun _ => ⟨_, _, rfl, hown'⟩, fun h => absurd h (by decide)⟩ hgrow trivial
              refine calmSteps_cons (fun u wq n hn hn2 hC hk K hK => ?_) ?_
              · obtain ⟨hP, hS, hR, hU, hM, hE⟩ := hC
                simp only [calmKnown, List.getElem?_cons_zero, List.getElem?_cons_succ, and_true, Is, Pure, Option.some.injEq, List.getD_cons_zero, List.getD_cons_succ, List.map_cons, List.map_nil] at hk
                have _p := hk; clear hk
                obtain rfl := hn 1 rfl
                go_simp
                exact hK _ _ _ rfl ⟨hP, hS, fun h => absurd h (by decide), fun h => absurd h (by decide), fun _ => hM (by decide), fun _ => rfl⟩ (grown_drewN _ 0 _) trivial
              exact calmSteps_nil
            · intro u w14 hC hF
              obtain ⟨hP, -, -, -, hM, hE⟩ := hC
              obtain ⟨A1, c1, hu, hown⟩ := hM (by decide)
              have hu4 : u 18 = .slice A1 (p + 1) c1 := Option.some.inj (show some (u 18) = some _ from (hE rfl).trans hu)
              simp only [hu4]
              clear hF hu hu4 hE hM E0 E1 KM
              go_wp2
              go_roundg (ss.length - (p + 1))
              case measure => omega
              case rel => exact ⟨p + 1, by omega, by omega, by go_num, ⟨A1, c1, rfl⟩, (by rw [HST.out]; exact hown), hP⟩
          · obtain rfl : p = ss.length := by omega
            have gp : decide ((ss.length : Int) < (ss.length : Int)) = false := decide_eq_false (by omega)
            rw [List.take_length] at hrow
            have hsm := spans_of_own (zs := ss.map (mvS d)) (by rw [List.length_map]; exact hrow) (by rw [List.length_map]; omega)
            rw [List.length_map] at hsm
            have HM := Lib.hid hsm; clear hsm hrow
            replace HK := Lib.hid (HK.out.below KM)
            replace HS := Lib.hid (HS.out.below KM)
            replace HO := Lib.hid (HO.out.below KM)
            clear KM
            go_wp2_with fail
            refine (sprofile_any A2 ss.length c2 ss _ (HS.out.below (by (repeat' (first | (with_reducible exact Below.refl _ _) | (with_reducible refine Below.setCell ?_ ?_ _) | (with_reducible refine Below.alloc ?_ ?_ _) | (with_reducible refine Below.drew ?_) | (with_reducible refine below_drewN ?_ _))) <;> (first | omega | (simp <;> omega))))).mono ?_
            rintro e w21 ⟨A15, c15, ps, rfl, hpp, hpx, hb21⟩
            have S21 : Below wr.heap.size wr w21 := kept_call hb21 (by (repeat' (first | (with_reducible exact Below.refl _ _) | (with_reducible refine Below.setCell ?_ ?_ _) | (with_reducible refine Below.alloc ?_ ?_ _) | (with_reducible refine Below.drew ?_) | (with_reducible refine below_drewN ?_ _))) <;> (first | omega | (simp <;> omega)))
            have Z21 := S21.size
            have HP := Lib.hid (hpp)
            replace HK := Lib.hid (HK.out.below S21)
            replace HS := Lib.hid (HS.out.below S21)
            replace HO := Lib.hid (HO.out.below S21)
            replace HM := Lib.hid (HM.out.below S21)
            clear hb21 S21
            clear hpp
            go_wp2_with fail
            refine (sprofile_any A8 ss.length c8 os _ (HO.out.below (by (repeat' (first | (with_reducible exact Below.refl _ _) | (with_reducible refine Below.setCell ?_ ?_ _) | (with_reducible refine Below.alloc ?_ ?_ _) | (with_reducible refine Below.drew ?_) | (with_reducible refine below_drewN ?_ _))) <;> (first | omega | (simp <;> omega))))).mono ?_
            rintro e w22 ⟨A16, c16, qs, rfl, hqq, hqx, hb22⟩
            have S22 : Below w21.heap.size w21 w22 := kept_call hb22 (by (repeat' (first | (with_reducible exact Below.refl _ _) | (with_reducible refine Below.setCell ?_ ?_ _) | (with_reducible refine Below.alloc ?_ ?_ _) | (with_reducible refine Below.drew ?_) | (with_reducible refine below_drewN ?_ _))) <;> (first | omega | (simp <;> omega)))
            have Z22 := S22.size
            have HQ := Lib.hid (hqq)
            replace HK := Lib.hid (HK.out.below S22)
            replace HS := Lib.hid (HS.out.below S22)
            replace HO := Lib.hid (HO.out.below S22)
            replace HM := Lib.hid (HM.out.below S22)
            replace HP := Lib.hid (HP.out.below S22)
            clear hb22 S22
            clear hqq
            obtain rfl := PX_uniq hqx (px_cnt HOC.out hpx HCK.out HCO.out)
            go_wp2_with fail
            refine (sprofile_any A0 ss.length c0 (ss.map (mvS d)) _ (HM.out.below (by (repeat' (first | (with_reducible exact Below.refl _ _) | (with_reducible refine Below.setCell ?_ ?_ _) | (with_reducible refine Below.alloc ?_ ?_ _) | (with_reducible refine Below.drew ?_) | (with_reducible refine below_drewN ?_ _))) <;> (first | omega | (simp <;> omega))))).mono ?_
            rintro e w23 ⟨A17, c17, rs, rfl, hrr, hrx, hb23⟩
            have S23 : Below w22.heap.size w22 w23 := kept_call hb23 (by (repeat' (first | (with_reducible exact Below.refl _ _) | (with_reducible refine Below.setCell ?_ ?_ _) | (with_reducible refine Below.alloc ?_ ?_ _) | (with_reducible refine Below.drew ?_) | (with_reducible refine below_drewN ?_ _))) <;> (first | omega | (simp <;> omega)))
            have Z23 := S23.size
            have HR := Lib.hid (hrr)
            replace HK := Lib.hid (HK.out.below S23)
            replace HS := Lib.hid (HS.out.below S23)
            replace HO := Lib.hid (HO.out.below S23)
            replace HM := Lib.hid (HM.out.below S23)
            replace HP := Lib.hid (HP.out.below S23)
            replace HQ := Lib.hid (HQ.out.below S23)
            clear hb23 S23
            clear hrr
            obtain rfl := PX_uniq hrx (px_move d hpx HCK.out HCM.out)
            rw [HCK.out, HCO.out, HCM.out]
            have HPV := Lib.hid (px_parts hpx HCK.out).2.2.2
            have hpl := (px_parts hpx HCK.out).2.2.1
            clear hpx hqx hrx
            simp only [List.length_map]
            go_wp2_with fail
            refine (psame_yes (HP.out.below (by (repeat' (first | (with_reducible exact Below.refl _ _) | (with_reducible refine Below.setCell ?_ ?_ _) | (with_reducible refine Below.alloc ?_ ?_ _) | (with_reducible refine Below.drew ?_) | (with_reducible refine below_drewN ?_ _))) <;> (first | omega | (simp <;> omega)))) (HQ.out.below (by (repeat' (first | (with_reducible exact Below.refl _ _) | (with_reducible refine Below.setCell ?_ ?_ _) | (with_reducible refine Below.alloc ?_ ?_ _) | (with_reducible refine Below.drew ?_) | (with_reducible refine below_drewN ?_ _))) <;> (first | omega | (simp <;> omega))))).mono ?_
            rintro e w24 ⟨rfl, hb24⟩
            have S24 : Below w23.heap.size w23 w24 := kept_call hb24 (by (repeat' (first | (with_reducible exact Below.refl _ _) | (with_reducible refine Below.setCell ?_ ?_ _) | (with_reducible refine Below.alloc ?_ ?_ _) | (with_reducible refine Below.drew ?_) | (with_reducible refine below_drewN ?_ _))) <;> (first | omega | (simp <;> omega)))
            have Z24 := S24.size
            replace HK := Lib.hid (HK.out.below S24)
            replace HS := Lib.hid (HS.out.below S24)
            replace HO := Lib.hid (HO.out.below S24)
            replace HM := Lib.hid (HM.out.below S24)
            replace HP := Lib.hid (HP.out.below S24)
            replace HQ := Lib.hid (HQ.out.below S24)
            replace HR := Lib.hid (HR.out.below S24)
            clear hb24 S24
            clear HQ
            go_wp2
            obtain ⟨w15, rfl⟩ : ∃ x : World, x = w24 := ⟨_, rfl⟩
            have Zw15 : w.heap.size ≤ w15.heap.size := HK.out.b.size
            go_loopg [21] qs.length (fun G i wr => IdRel w15 qs.length i G wr)
            case atStart => exact ⟨0, by omega, by omega, rfl, Below.refl _ _⟩
            case round =>
              obtain ⟨p, hp, rfl, rfl, KQ⟩ := hrel
              have ZQ := KQ.size
              replace HK := Lib.hid (HK.out.below KQ)
              replace HS := Lib.hid (HS.out.below KQ)
              replace HO := Lib.hid (HO.out.below KQ)
              replace HM := Lib.hid (HM.out.below KQ)
              replace HP := Lib.hid (HP.out.below KQ)
              replace HR := Lib.hid (HR.out.below KQ)
              have HRQ := Lib.hid (show Kp w15 wr from KQ)
              clear KQ
              by_cases hlp : p < qs.length
              · have gp : decide ((p : Int) < (qs.length : Int)) = true := decide_eq_true (by omega)
                have gpn : decide (p < qs.length) = true := decide_eq_true hlp
                have wp : IntKind.i64.wrap ((p : Int) + 1) = ((p + 1 : Nat) : Int) := by rw [IntWalk.i64_in _ (by omega)]; omega
                obtain ⟨bl, off, rfl, hbl, hcs⟩ := HP.out.2.2 (by omega)
                obtain ⟨e0, e1, e2⟩ := hcs p hlp
                obtain ⟨bm, offm, rfl, hbm, hms⟩ := HR.out.2.2 (by rw [List.length_map]; omega)
                obtain ⟨d0', d1', d2'⟩ := hms p (by rw [List.length_map]; exact hlp)
                rw [getD_mv d qs p hlp] at d0' d1' d2'
                have hv := vS_true.1 (HPV.out (qs.getD p ⟨0, 0, 0⟩) (by rw [List.getD_eq_getElem?_getD, List.getElem?_eq_getElem hlp]; exact List.getElem_mem _))
                clear hcs hms
                generalize qs.getD p ⟨0, 0, 0⟩ = x at *
                obtain ⟨lo, hi, cn⟩ := x
                simp only [mvP] at e0 e1 e2 d0' d1' d2' hv
                have wl : IntKind.i64.wrap (lo + d) = lo + d := IntWalk.i64_in _ (by omega)
                have wh : IntKind.i64.wrap (hi + d) = hi + d := IntWalk.i64_in _ (by omega)
                clear hv
                go_wp2_with fail
                go_quiet (fail)
                clear e0 e1 e2 d0' d1' d2'
                go_wp2
                go_roundg (qs.length - (p + 1))
                case measure => omega
                case rel => exact ⟨p + 1, by omega, by omega, by go_num, HRQ.out.below (by (repeat' (first | (with_reducible exact Below.refl _ _) | (with_reducible refine Below.setCell ?_ ?_ _) | (with_reducible refine Below.alloc ?_ ?_ _) | (with_reducible refine Below.drew ?_) | (with_reducible refine below_drewN ?_ _))) <;> (first | omega | (simp <;> omega)))⟩
              · obtain rfl : p = qs.length := by omega
                have gp : decide ((qs.length : Int) < (qs.length : Int)) = false := decide_eq_false (by omega)
                clear HRQ
                go_wp2_with fail
                refine (known34_any _).mono ?_
                rintro e w61 ⟨rfl, hb61⟩
                have S61 : Below wr.heap.size wr w61 := kept_call hb61 (by (repeat' (first | (with_reducible exact Below.refl _ _) | (with_reducible refine Below.setCell ?_ ?_ _) | (with_reducible refine Below.alloc ?_ ?_ _) | (with_reducible refine Below.drew ?_) | (with_reducible refine below_drewN ?_ _))) <;> (first | omega | (simp <;> omega)))
                have Z61 := S61.size
                replace HK := Lib.hid (HK.out.below S61)
                replace HS := Lib.hid (HS.out.below S61)
                replace HO := Lib.hid (HO.out.below S61)
                replace HM := Lib.hid (HM.out.below S61)
                replace HP := Lib.hid (HP.out.below S61)
                replace HR := Lib.hid (HR.out.below S61)
                clear hb61 S61
                go_wp2
                go_ret
                exact ⟨rfl, HK.out.below (by (repeat' (first | (with_reducible exact Below.refl _ _) | (with_reducible refine Below.setCell ?_ ?_ _) | (with_reducible refine Below.alloc ?_ ?_ _) | (with_reducible refine Below.drew ?_) | (with_reducible refine below_drewN ?_ _))) <;> (first | omega | (simp <;> omega)))⟩
theorem order_row (A : Option Addr) (len cap : Nat) (zs : List Int) {w : World} (k : IntsAt w A len zs) (B : Option Addr) (blen bcap : Nat) (bs : List Int) (k2 : IntsAt w B blen bs) (d : Int) (_ : IntIn d) (W : World) (hw : W = w) :
    Walked 5 #[.slice A len cap, .slice B blen bcap, .int .i64 d] W := by
  subst hw; exact order_walk A B len cap blen bcap zs bs d W k k2
end Go.Proofs.Ytlfkkfdolnkjfaa
