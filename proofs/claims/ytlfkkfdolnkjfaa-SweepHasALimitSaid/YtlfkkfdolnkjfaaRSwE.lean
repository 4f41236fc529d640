/- The reference's cuts. -/
import Derived.Test.YtlfkkfdolnkjfaaRSwD
namespace Go.Proofs.Ytlfkkfdolnkjfaa
open Go.RowKit Go.Shelf Go.Sort
set_option linter.unusedSimpArgs false
set_option linter.unusedVariables false

def CutsR (w : World) (zs : List (Int × Int)) (e : Ending) (w' : World) : Prop := ∃ (A : Option Addr) (cap : Nat) (cs : List Int), e = .returned (.slice A cs.length cap) ∧ NumI w' A cs.length cap cs ∧ CutX zs cs ∧ Below w.heap.size w w'
def CuRel (w : World) (zs : List (Int × Int)) (G : Nat) (v i : Value) (wr : World) : Prop := ∃ (k : Nat) (A : Option Addr) (cap : Nat) (cs : List Int), k ≤ zs.length ∧ G = zs.length - k ∧ i = .int .i64 k ∧ v = .slice A cs.length cap ∧ NumI wr A cs.length cap cs ∧ CutX (zs.take k) cs ∧ Below w.heap.size w wr
theorem nums_nil {w : World} : NumI w none 0 0 [] := ⟨rfl, by omega, by omega, fun _ => ⟨rfl, rfl⟩, fun h => by omega⟩
set_option maxRecDepth 100000 in
set_option maxHeartbeats 2000000 in
theorem cuts_any (A0 : Option Addr) (len cap0 : Nat) (zs : List (Int × Int)) (hv : ∀ z ∈ zs, vS z.1 z.2 = true) (h64 : len ≤ 64) (w : World) (h : SpansAt w A0 len zs) :
    Calls Try.prog 81 #[.slice A0 len cap0] w (CutsR w zs) := by
  have hz := h.1
  subst hz
  have H := Lib.hid h; have HV := Lib.hid hv; clear h hv
  go_enter Try.func81, Try.ntmps81
  go_wp2
  go_loopg [3, 4] zs.length (fun G v i wr => CuRel w zs G v i wr)
  case atStart => exact ⟨0, none, 0, [], by omega, by omega, rfl, rfl, nums_nil, CutX.nil, by (repeat' (first | (with_reducible exact Below.refl _ _) | (with_reducible refine Below.setCell ?_ ?_ _) | (with_reducible refine Below.alloc ?_ ?_ _) | (with_reducible refine Below.drew ?_) | (with_reducible refine below_drewN ?_ _))) <;> (first | omega | (simp <;> omega))⟩
  case round =>
    obtain ⟨k, A, cap, cs, hk, rfl, rfl, rfl, hnm, hcu, KR⟩ := hrel
    have ZR := KR.size
    have hcl := hcu.2.2
    rw [List.length_take] at hcl
    have HNM := Lib.hid hnm; have HCU := Lib.hid hcu; clear hnm hcu
    by_cases hlt : k < zs.length
    · have gk : decide ((k : Int) < (zs.length : Int)) = true := decide_eq_true (by omega)
      have wk : IntKind.i64.wrap ((k : Int) + 1) = ((k + 1 : Nat) : Int) := by rw [IntWalk.i64_in _ (by omega)]; omega
      obtain ⟨bl, off, rfl, hb, hcs⟩ := H.out.2.2 (by omega)
      have hE := hcs k hlt
      clear hcs
      have hsn : zs.take (k + 1) = zs.take k ++ [zs.getD k (0, 0)] := take_snocC (0, 0) zs hlt
      have hzv := HV.out (zs.getD k (0, 0)) (by rw [List.getD_eq_getElem?_getD, List.getElem?_eq_getElem hlt]; exact List.getElem_mem _)
      generalize zs.getD k (0, 0) = z at *
      obtain ⟨x, y⟩ := z
      dsimp only at hE hzv
      obtain ⟨v1, v2, v3⟩ := vS_true.1 hzv
      have E0 : ∀ W, Below wr.heap.size wr W → W.cell? ⟨bl, off + k * 2, none⟩ = some (.int .i64 x) := fun W hW => (hW.cell (p := ⟨bl, off + k * 2, none⟩) (by show bl < wr.heap.size; omega)).trans ((KR.cell (p := ⟨bl, off + k * 2, none⟩) hb).trans hE.1)
      have E1 : ∀ W, Below wr.heap.size wr W → W.cell? ⟨bl, off + k * 2 + 1, none⟩ = some (.int .i64 y) := fun W hW => (hW.cell (p := ⟨bl, off + k * 2 + 1, none⟩) (by show bl < wr.heap.size; omega)).trans ((KR.cell (p := ⟨bl, off + k * 2 + 1, none⟩) hb).trans hE.2)
      have HSN := Lib.hid hsn; clear hE hsn hzv
      have wy : IntKind.i64.wrap (y + 1) = y + 1 := IntWalk.i64_in _ (by omega)
      have HP1 := Lib.hid (fun W (hW : Below wr.heap.size wr W) => put_any A cs.length cap cs x HCU.out.1 (by omega) W (HNM.out.below hW))
      have HP2 := Lib.hid (fun (A1 : Option Addr) (c1 : Nat) (ys : List Int) (W : World) (hn : NumI W A1 ys.length c1 ys) (hp : PutX cs x ys) => put_any A1 ys.length c1 ys (y + 1) hp.1 (by have := hp.2.2; omega) W hn)
      go_upto_region 5 with fail
      refine' wp_region_calmS (by kernel_rfl) (fun n us w' => Below wr.heap.size wr w' ∧ (n = 1 → ∃ A' c' ys, us[0]? = some (.slice A' ys.length c') ∧ NumI w' A' ys.length c' ys ∧ PutX cs x ys) ∧ (n = 2 → ∃ A' c' ys, us[1]? = some (.slice A' ys.length c') ∧ NumI w' A' ys.length c' ys ∧ CutX (zs.take (k + 1)) ys) ∧ (n = 3 → ∃ A' c' ys, us[2]? = some (.slice A' ys.length c') ∧ NumI w' A' ys.length c' ys ∧ CutX (zs.take (k + 1)) ys) ∧ (n ≤ 2 → us[2]? = some (.slice A cs.length cap))) (fun _ _ => True) [(Is (.slice A cs.length cap)), (Is (.slice (some ⟨bl, off, none⟩) zs.length cap0)), (Is (.int .i64 (k : Int))), (Is (.pointer (some ⟨bl, off + k * 2, none⟩))), (Is (.pointer (some ⟨bl, off + k * 2, none⟩))), (Is (.int .i64 x)), (fun _ _ _ => True), (Is (.slice (some ⟨bl, off, none⟩) zs.length cap0)), (Is (.int .i64 (k : Int))), (Is (.pointer (some ⟨bl, off + k * 2, none⟩))), (Is (.pointer (some ⟨bl, off + k * 2 + 1, none⟩))), (Is (.int .i64 y)), (Is (.int .i64 (y + 1))), (fun _ _ _ => True), (fun _ _ _ => True)] [[], [], [], [1, 2], [3], [4], [0, 5], [], [], [7, 8], [9], [10], [11], [6, 12], [13]] [6, 13, 14] [6, 13, 14] rfl (by kernel_rfl) (fun u => by (simp only [calmPut, Act.put, List.setIfInBounds_toArray, List.set_cons_zero, List.set_cons_succ, Nat.zero_add, Nat.reduceAdd]; rfl)) ?_ (calmKeep_cons keep_is' (calmKeep_cons keep_is' (calmKeep_cons keep_is' (calmKeep_cons keep_is' (calmKeep_cons keep_is' (calmKeep_cons keep_is' (calmKeep_cons keep_triv (calmKeep_cons keep_is' (calmKeep_cons keep_is' (calmKeep_cons keep_is' (calmKeep_cons keep_is' (calmKeep_cons keep_is' (calmKeep_cons keep_is' (calmKeep_cons keep_triv (calmKeep_cons keep_triv (calmKeep_nil)))))))))))))))) ?_ ?_
      · skip
        exact ⟨(Below.refl _ _).drew, fun h => absurd h (by decide), fun h => absurd h (by decide), fun h => absurd h (by decide), fun _ => rfl⟩
      · skip
        refine calmSteps_cons (fun u wq n hn hn2 hC hk K hK => ?_) ?_
        · obtain ⟨hP, h1, h2, h3, h4⟩ := hC
          clear hk
          obtain rfl : n = 0 := Nat.le_zero.1 (hn2 0 6 rfl (by kernel_rfl))
          have hu : u 14 = .slice A cs.length cap := Option.some.inj (show some (u 14) = _ from h4 (by decide))
          simp only [hu] at hK ⊢
          have HU := Lib.hid hu; clear hu
          go_simp
          exact hK _ _ _ rfl ⟨hP, h1, h2, h3, h4⟩ trivial rfl
        refine calmSteps_cons (fun u wq n hn hn2 hC hk K hK => ?_) ?_
        · obtain ⟨hP, h1, h2, h3, h4⟩ := hC
          clear hk
          go_simp
          exact hK _ _ _ rfl ⟨hP, h1, h2, h3, h4⟩ trivial rfl
        refine calmSteps_cons (fun u wq n hn hn2 hC hk K hK => ?_) ?_
        · obtain ⟨hP, h1, h2, h3, h4⟩ := hC
          clear hk
          go_simp
          exact hK _ _ _ rfl ⟨hP, h1, h2, h3, h4⟩ trivial rfl
        refine calmSteps_cons (fun u wq n hn hn2 hC hk K hK => ?_) ?_
        · obtain ⟨hP, h1, h2, h3, h4⟩ := hC
          simp only [calmKnown, List.getElem?_cons_zero, List.getElem?_cons_succ, and_true, Is, Pure, Option.some.injEq, List.getD_cons_zero, List.getD_cons_succ, List.map_cons, List.map_nil] at hk
          obtain ⟨h1, h2⟩ := hk
          simp only [h1, h2] at hK ⊢
          have H1 := Lib.hid h1; clear h1; have H2 := Lib.hid h2; clear h2
          go_simp
          exact hK _ _ _ rfl ⟨hP, h1, h2, h3, h4⟩ trivial rfl
        refine calmSteps_cons (fun u wq n hn hn2 hC hk K hK => ?_) ?_
        · obtain ⟨hP, h1, h2, h3, h4⟩ := hC
          simp only [calmKnown, List.getElem?_cons_zero, List.getElem?_cons_succ, and_true, Is, Pure, Option.some.injEq, List.getD_cons_zero, List.getD_cons_succ, List.map_cons, List.map_nil] at hk
          have h3 := hk; clear hk
          simp only [h3] at hK ⊢
          have H3 := Lib.hid h3; clear h3
          go_simp
          exact hK _ _ _ rfl ⟨hP, h1, h2, h3, h4⟩ trivial rfl
        refine calmSteps_cons (fun u wq n hn hn2 hC hk K hK => ?_) ?_
        · obtain ⟨hP, h1, h2, h3, h4⟩ := hC
          simp only [calmKnown, List.getElem?_cons_zero, List.getElem?_cons_succ, and_true, Is, Pure, Option.some.injEq, List.getD_cons_zero, List.getD_cons_succ, List.map_cons, List.map_nil] at hk
          have h4 := hk; clear hk
          simp only [h4] at hK ⊢
          have H4 := Lib.hid h4; clear h4
          have y0 := E0 _ hP
          go_simp
          exact hK _ _ _ rfl ⟨hP, h1, h2, h3, h4⟩ trivial rfl
        refine calmSteps_cons (fun u wq n hn hn2 hC hk K hK => ?_) ?_
        · obtain ⟨hP, h1, h2, h3, h4⟩ := hC
          simp only [calmKnown, List.getElem?_cons_zero, List.getElem?_cons_succ, and_true, Is, Pure, Option.some.injEq, List.getD_cons_zero, List.getD_cons_succ, List.map_cons, List.map_nil] at hk
          obtain ⟨h0, h5⟩ := hk
          simp only [h0, h5] at hK ⊢
          have H0 := Lib.hid h0; clear h0; have H5 := Lib.hid h5; clear h5
          obtain rfl := hn 0 rfl
          go_wp2_with fail
          refine (HP1.out _ hP).mono ?_
          rintro e w2 ⟨A', c', ys, rfl, hn2', hpx, hbl⟩
          exact hK _ _ _ rfl ⟨kept_call hbl hP, fun _ => ⟨A', c', ys, rfl, hn2', hpx⟩, fun h => absurd h (by decide), fun h => absurd h (by decide), fun _ => h4 (by decide)⟩ trivial trivial
        refine calmSteps_cons (fun u wq n hn hn2 hC hk K hK => ?_) ?_
        · obtain ⟨hP, h1, h2, h3, h4⟩ := hC
          clear hk
          go_simp
          exact hK _ _ _ rfl ⟨hP, h1, h2, h3, h4⟩ trivial rfl
        refine calmSteps_cons (fun u wq n hn hn2 hC hk K hK => ?_) ?_
        · obtain ⟨hP, h1, h2, h3, h4⟩ := hC
          clear hk
          go_simp
          exact hK _ _ _ rfl ⟨hP, h1, h2, h3, h4⟩ trivial rfl
        refine calmSteps_cons (fun u wq n hn hn2 hC hk K hK => ?_) ?_
        · obtain ⟨hP, h1, h2, h3, h4⟩ := hC
          simp only [calmKnown, List.getElem?_cons_zero, List.getElem?_cons_succ, and_true, Is, Pure, Option.some.injEq, List.getD_cons_zero, List.getD_cons_succ, List.map_cons, List.map_nil] at hk
          obtain ⟨h7, h8⟩ := hk
          simp only [h7, h8] at hK ⊢
          have H7 := Lib.hid h7; clear h7; have H8 := Lib.hid h8; clear h8
          go_simp
          exact hK _ _ _ rfl ⟨hP, h1, h2, h3, h4⟩ trivial rfl
        refine calmSteps_cons (fun u wq n hn hn2 hC hk K hK => ?_) ?_
        · obtain ⟨hP, h1, h2, h3, h4⟩ := hC
          simp only [calmKnown, List.getElem?_cons_zero, List.getElem?_cons_succ, and_true, Is, Pure, Option.some.injEq, List.getD_cons_zero, List.getD_cons_succ, List.map_cons, List.map_nil] at hk
          have h9 := hk; clear hk
          simp only [h9] at hK ⊢
          have H9 := Lib.hid h9; clear h9
          go_simp
          exact hK _ _ _ rfl ⟨hP, h1, h2, h3, h4⟩ trivial rfl
        refine calmSteps_cons (fun u wq n hn hn2 hC hk K hK => ?_) ?_
        · obtain ⟨hP, h1, h2, h3, h4⟩ := hC
          simp only [calmKnown, List.getElem?_cons_zero, List.getElem?_cons_succ, and_true, Is, Pure, Option.some.injEq, List.getD_cons_zero, List.getD_cons_succ, List.map_cons, List.map_nil] at hk
          have h10 := hk; clear hk
          simp only [h10] at hK ⊢
          have H10 := Lib.hid h10; clear h10
          have y0 := E1 _ hP
          go_simp
          exact hK _ _ _ rfl ⟨hP, h1, h2, h3, h4⟩ trivial rfl
        refine calmSteps_cons (fun u wq n hn hn2 hC hk K hK => ?_) ?_
        · obtain ⟨hP, h1, h2, h3, h4⟩ := hC
          simp only [calmKnown, List.getElem?_cons_zero, List.getElem?_cons_succ, and_true, Is, Pure, Option.some.injEq, List.getD_cons_zero, List.getD_cons_succ, List.map_cons, List.map_nil] at hk
          have h11 := hk; clear hk
          simp only [h11] at hK ⊢
          have H11 := Lib.hid h11; clear h11
          go_simp
          exact hK _ _ _ rfl ⟨hP, h1, h2, h3, h4⟩ trivial rfl
        refine calmSteps_cons (fun u wq n hn hn2 hC hk K hK => ?_) ?_
        · obtain ⟨hP, h1, h2, h3, h4⟩ := hC
          simp only [calmKnown, List.getElem?_cons_zero, List.getElem?_cons_succ, and_true, Is, Pure, Option.some.injEq, List.getD_cons_zero, List.getD_cons_succ, List.map_cons, List.map_nil] at hk
          obtain ⟨_p, h12⟩ := hk
          simp only [h12] at hK ⊢
          have H12 := Lib.hid h12; clear h12
          obtain rfl := hn 1 rfl
          obtain ⟨A1, c1, ys, e1, e2, e3⟩ := h1 rfl
          have e1 : u 6 = .slice A1 ys.length c1 := Option.some.inj (show some (u 6) = _ from e1)
          simp only [e1] at hK ⊢
          have E9 := Lib.hid e1; clear e1
          go_wp2_with fail
          refine (HP2.out A1 c1 ys _ e2 e3).mono ?_
          rintro e w2 ⟨A', c', us, rfl, hn2', hpx, hbl⟩
          exact hK _ _ _ rfl ⟨kept_call hbl hP, fun h => absurd h (by decide), fun _ => ⟨A', c', us, rfl, hn2', by rw [HSN.out]; exact HCU.out.snoc e3 hpx⟩, fun h => absurd h (by decide), fun _ => h4 (by decide)⟩ trivial trivial
        refine calmSteps_cons (fun u wq n hn hn2 hC hk K hK => ?_) ?_
        · obtain ⟨hP, h1, h2, h3, h4⟩ := hC
          simp only [calmKnown, List.getElem?_cons_zero, List.getElem?_cons_succ, and_true, Is, Pure, Option.some.injEq, List.getD_cons_zero, List.getD_cons_succ, List.map_cons, List.map_nil] at hk
          have _p := hk; clear hk
          obtain rfl := hn 2 rfl
          obtain ⟨A1, c1, ys, e1, e2, e3⟩ := h2 rfl
          have e1 : u 13 = .slice A1 ys.length c1 := Option.some.inj (show some (u 13) = _ from e1)
          simp only [e1] at hK ⊢
          have E9 := Lib.hid e1; clear e1
          go_simp
          exact hK _ _ _ rfl ⟨hP, fun h => absurd h (by decide), fun h => absurd h (by decide), fun _ => ⟨A1, c1, ys, rfl, e2, e3⟩, fun h => absurd h (by decide)⟩ trivial trivial
        exact calmSteps_nil
      · intro u w9 hC hF
        obtain ⟨hP, -, -, h3, -⟩ := hC
        obtain ⟨A9, c9, ys, e1, e2, e3⟩ := h3 (by decide)
        have e1 : u 14 = .slice A9 ys.length c9 := Option.some.inj (show some (u 14) = _ from e1)
        simp only [e1]
        clear e1 hF
        have HN9 := Lib.hid e2; have HC9 := Lib.hid e3; clear e2 e3
        have K9 : Below w.heap.size w w9 := kept_call hP KR
        go_wp2
        go_roundg (zs.length - (k + 1))
        case measure => omega
        case rel => exact ⟨k + 1, A9, c9, ys, by omega, by omega, by go_num, rfl, HN9.out, HC9.out, K9⟩
    · obtain rfl : zs.length = k := by omega
      have gk : decide ((zs.length : Int) < (zs.length : Int)) = false := decide_eq_false (by omega)
      have hcu := HCU.out
      rw [List.take_length] at hcu
      have HC9 := Lib.hid hcu; clear hcu
      go_wp2
      go_ret
      exact ⟨A, cap, cs, rfl, HNM.out, HC9.out, by (repeat' (first | (with_reducible exact KR) | (with_reducible refine Below.setCell ?_ ?_ _) | (with_reducible refine Below.alloc ?_ ?_ _) | (with_reducible refine Below.drew ?_) | (with_reducible refine below_drewN ?_ _))) <;> (first | omega | (simp <;> omega))⟩
end Go.Proofs.Ytlfkkfdolnkjfaa
