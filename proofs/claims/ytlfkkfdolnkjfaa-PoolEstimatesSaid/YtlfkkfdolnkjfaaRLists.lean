/- The reference's Common and SameSpans, for every list. -/
import Derived.BigQuiet
import Derived.Deep.LoopGhost
import Derived.Deep.QuietTactic
import Derived.Deep.RegionWith
import Derived.Test.YtlfkkfdolnkjfaaCalmP
import Derived.Test.YtlfkkfdolnkjfaaCommon
import Derived.Test.YtlfkkfdolnkjfaaJ26
import Derived.Test.YtlfkkfdolnkjfaaRUnW
namespace Go.Proofs.Ytlfkkfdolnkjfaa
open Go.RowKit Go.Shelf Go.Sort
set_option linter.unusedSimpArgs false
set_option linter.unusedVariables false

theorem bounds_mt (c0 c1 x y : Int) : (mtB c0 c1 x y = false → mtLo c0 c1 x y = 0 ∧ mtHi c0 c1 x y = 0) := by
  intro h; unfold mtLo mtHi; rw [h]; exact ⟨rfl, rfl⟩
def SmRel (w : World) (za zb : List (Int × Int)) (G : Nat) (i : Value) (wr : World) : Prop := ∃ q : Nat, q ≤ za.length ∧ G = za.length - q ∧ i = .int .i64 q ∧ (∀ j, j < q → za.getD j (0, 0) = zb.getD j (0, 0)) ∧ Below w.heap.size w wr
theorem same_lists {za zb : List (Int × Int)} (hl : za.length = zb.length) (h : ∀ j, j < za.length → za.getD j (0, 0) = zb.getD j (0, 0)) : za = zb := by
  refine List.ext_getElem hl (fun i h1 h2 => ?_)
  have := h i h1
  rw [List.getD_eq_getElem?_getD, List.getD_eq_getElem?_getD, List.getElem?_eq_getElem h1, List.getElem?_eq_getElem h2] at this
  exact this
set_option maxRecDepth 100000 in
set_option maxHeartbeats 2000000 in
theorem same_any (A B : Option Addr) (la lb ca cb : Nat) (za zb : List (Int × Int)) (w : World) (h : SpansAt w A la za) (k : SpansAt w B lb zb) :
    Calls Try.prog 26 #[.slice A la ca, .slice B lb cb] w (RB w (.bool (decide (za = zb)))) := by
  have ha := h.1; have hb := k.1
  have la0 := h.2.1; have lb0 := k.2.1
  subst ha; subst hb
  have H := Lib.hid h; have K := Lib.hid k; clear h k
  by_cases hl : za.length = zb.length
  · have g0 : decide ((za.length : Int) = (zb.length : Int)) = true := decide_eq_true (by omega)
    have g0b : (((za.length : Int)) == ((zb.length : Int))) = true := by simp [hl]
    have g0c : (((za.length : Int)) != ((zb.length : Int))) = false := by simp [hl]
    have HL := Lib.hid hl
    go_enter Try.func26, Try.ntmps26
    clear hl
    go_wp2
    go_loopg [5] za.length (fun G i wr => SmRel w za zb G i wr)
    case atStart => exact ⟨0, by omega, by omega, rfl, fun j hj => by omega, by (repeat' (first | (with_reducible exact Below.refl _ _) | (with_reducible refine Below.setCell ?_ ?_ _) | (with_reducible refine Below.alloc ?_ ?_ _) | (with_reducible refine Below.drew ?_) | (with_reducible refine below_drewN ?_ _))) <;> (first | omega | (simp <;> omega))⟩
    case round =>
      obtain ⟨q, hq, rfl, rfl, hs, KR⟩ := hrel
      have ZR := KR.size
      have HS := Lib.hid hs; clear hs
      by_cases hlt : q < za.length
      · have gk : decide ((q : Int) < (za.length : Int)) = true := decide_eq_true (by omega)
        have wq : IntKind.i64.wrap ((q : Int) + 1) = ((q + 1 : Nat) : Int) := by rw [IntWalk.i64_in _ (by omega)]; omega
        have hlb : q < zb.length := by have := HL.out; omega
        obtain ⟨bl, off, rfl, hb, hcs⟩ := H.out.2.2 (by omega)
        obtain ⟨e0, e1⟩ := hcs q hlt
        clear hcs
        have e0 := (KR.cell (p := ⟨bl, off + q * 2, none⟩) hb).trans e0
        have e1 := (KR.cell (p := ⟨bl, off + q * 2 + 1, none⟩) hb).trans e1
        obtain ⟨bl', off', rfl, hb', hcs'⟩ := K.out.2.2 (by omega)
        obtain ⟨e2, e3⟩ := hcs' q hlb
        clear hcs'
        have e2 := (KR.cell (p := ⟨bl', off' + q * 2, none⟩) hb').trans e2
        have e3 := (KR.cell (p := ⟨bl', off' + q * 2 + 1, none⟩) hb').trans e3
        obtain ⟨x, hx⟩ : ∃ x, za.getD q (0, 0) = x := ⟨_, rfl⟩
        obtain ⟨y, hy⟩ : ∃ y, zb.getD q (0, 0) = y := ⟨_, rfl⟩
        rw [hx] at e0 e1
        rw [hy] at e2 e3
        have HX := Lib.hid hx; have HY := Lib.hid hy; clear hx hy
        obtain ⟨x0, x1⟩ := x
        obtain ⟨y0, y1⟩ := y
        dsimp only at e0 e1 e2 e3
        by_cases c : x0 = y0 ∧ x1 = y1
        · obtain ⟨rfl, rfl⟩ := c
          go_wp2_with fail
          go_quiet (fail)
          clear e0 e1 e2 e3
          go_wp2
          go_roundg (za.length - (q + 1))
          case measure => omega
          case rel => exact ⟨q + 1, by omega, by omega, by go_num, fun j hj => by by_cases e9 : j = q; (subst e9; rw [HX.out, HY.out]); (exact HS.out j (by omega)), by (repeat' (first | (with_reducible exact KR) | (with_reducible refine Below.setCell ?_ ?_ _) | (with_reducible refine Below.alloc ?_ ?_ _) | (with_reducible refine Below.drew ?_) | (with_reducible refine below_drewN ?_ _))) <;> (first | omega | (simp <;> omega))⟩
        · have hne : za ≠ zb := fun e => c (by
            have h1 := HX.out; have h2 := HY.out
            rw [e] at h1
            rw [h1] at h2
            exact ⟨congrArg Prod.fst h2, congrArg Prod.snd h2⟩)
          have HV := Lib.hid (decide_eq_false hne); clear hne
          by_cases c0 : x0 = y0
          · subst c0
            have c1 : ¬ x1 = y1 := fun h => c ⟨rfl, h⟩
            have d1 : decide (x1 = y1) = false := decide_eq_false c1
            have d2 : (x1 == y1) = false := by simpa using c1
            clear c
            go_wp2_with fail
            go_quiet (fail)
            clear e0 e1 e2 e3
            go_wp2
            go_ret
            exact ⟨by rw [HV.out]; rfl, by (repeat' (first | (with_reducible exact KR) | (with_reducible refine Below.setCell ?_ ?_ _) | (with_reducible refine Below.alloc ?_ ?_ _) | (with_reducible refine Below.drew ?_) | (with_reducible refine below_drewN ?_ _))) <;> (first | omega | (simp <;> omega))⟩
          · have d1 : decide (x0 = y0) = false := decide_eq_false c0
            have d2 : (x0 == y0) = false := by simpa using c0
            clear c
            go_wp2_with fail
            go_quiet (fail)
            clear e0 e1 e2 e3
            go_wp2
            go_ret
            exact ⟨by rw [HV.out]; rfl, by (repeat' (first | (with_reducible exact KR) | (with_reducible refine Below.setCell ?_ ?_ _) | (with_reducible refine Below.alloc ?_ ?_ _) | (with_reducible refine Below.drew ?_) | (with_reducible refine below_drewN ?_ _))) <;> (first | omega | (simp <;> omega))⟩
      · obtain rfl : za.length = q := by omega
        have gk : decide ((za.length : Int) < (za.length : Int)) = false := decide_eq_false (by omega)
        have HV := Lib.hid (decide_eq_true (same_lists HL.out HS.out))
        go_wp2
        go_ret
        exact ⟨by rw [HV.out]; rfl, by (repeat' (first | (with_reducible exact KR) | (with_reducible refine Below.setCell ?_ ?_ _) | (with_reducible refine Below.alloc ?_ ?_ _) | (with_reducible refine Below.drew ?_) | (with_reducible refine below_drewN ?_ _))) <;> (first | omega | (simp <;> omega))⟩
  · have g0 : decide ((za.length : Int) = (zb.length : Int)) = false := decide_eq_false (by omega)
    have g0b : (((za.length : Int)) == ((zb.length : Int))) = false := by simp; omega
    have g0c : (((za.length : Int)) != ((zb.length : Int))) = true := by simp; omega
    have HV := Lib.hid (decide_eq_false (p := za = zb) (fun e => hl (by rw [e])))
    go_enter Try.func26, Try.ntmps26
    clear hl
    go_wp2
    go_ret
    exact ⟨by rw [HV.out]; rfl, (by (repeat' (first | (with_reducible exact Below.refl _ _) | (with_reducible refine Below.setCell ?_ ?_ _) | (with_reducible refine Below.alloc ?_ ?_ _) | (with_reducible refine Below.drew ?_) | (with_reducible refine below_drewN ?_ _))) <;> (first | omega | (simp <;> omega)))⟩
theorem com_first {x y : Int} {l : List (Int × Int)} : comS ((x, y) :: l) true = l.foldl stepC (if vS x y = true then ((x, y), true) else ((0, 0), false)) := by
  unfold comS
  rw [List.foldl_cons]
  congr 1
  unfold stepC
  dsimp only
  rw [if_pos rfl]
  cases h : vS x y with
  | true =>
    have g := vS_true.1 h
    have m : mtB (-1152921504606846976) 1152921504606846976 x y = true := by unfold mtB; rw [h, vS_true.2 ⟨by omega, by omega, by omega⟩]; simp; omega
    unfold mtLo mtHi
    rw [m, if_pos rfl, if_pos rfl, if_pos rfl, show max (-1152921504606846976) x = x by omega, show min 1152921504606846976 y = y by omega]
  | false =>
    have m : mtB (-1152921504606846976) 1152921504606846976 x y = false := by unfold mtB; rw [h]; simp
    unfold mtLo mtHi
    rw [m]; rfl
theorem comV_of {zs : List (Int × Int)} {c0 c1 : Int} (hl : 0 < zs.length) (h : comS zs true = ((c0, c1), true)) : comV zs = .tuple #[.agg #[.int .i64 c0, .int .i64 c1], .bool true] := by
  unfold comV comVb; rw [decide_eq_true hl, h]; rfl
theorem comV_no {zs : List (Int × Int)} {c : Int × Int} (hl : 0 < zs.length) (h : comS zs true = (c, false)) : comV zs = .tuple #[.agg #[.int .i64 0, .int .i64 0], .bool false] := by
  unfold comV comVb; rw [decide_eq_true hl, h]; rfl
theorem comV_nil : comV [] = .tuple #[.agg #[.int .i64 0, .int .i64 0], .bool false] := rfl
def RCom (w : World) (cb : Nat) (zs : List (Int × Int)) (G : Nat) (i : Value) (wr : World) : Prop := ∃ (q : Nat) (c0 c1 : Int), 1 ≤ q ∧ q ≤ zs.length ∧ G = zs.length - q ∧ i = .int .i64 q ∧ comS (zs.take q) true = ((c0, c1), true) ∧ Blk wr w.heap.size 35 #[.int .i64 0, .int .i64 0] ∧ Blk wr cb 35 #[.int .i64 c0, .int .i64 c1] ∧ Below w.heap.size w wr
set_option maxRecDepth 100000 in
set_option maxHeartbeats 2000000 in
theorem rcommon_any (A : Option Addr) (len cap : Nat) (zs : List (Int × Int)) (w : World) (h : SpansAt w A len zs) :
    Calls Try.prog 23 #[.slice A len cap] w (RB w (comV zs)) := by
  have hz := h.1
  have hlm := h.2.1
  subst hz
  have H := Lib.hid h; clear h
  by_cases h0 : 0 < zs.length
  · have g0 : decide ((zs.length : Int) = 0) = false := decide_eq_false (by omega)
    have g0b : (((zs.length : Int)) == 0) = false := by rw [beq_eq_false_iff_ne]; omega
    obtain ⟨bl, off, rfl, hb, hcs⟩ := H.out.2.2 h0
    obtain ⟨e0, e1⟩ := hcs 0 h0
    have HCS := Lib.hid hcs; clear hcs
    have ht1 : comS (zs.take 1) true = if vS (zs.getD 0 (0, 0)).1 (zs.getD 0 (0, 0)).2 = true then (zs.getD 0 (0, 0), true) else ((0, 0), false) := by
      cases zs with
      | nil => simp at h0
      | cons z l => obtain ⟨x, y⟩ := z; exact com_first (l := [])
    have HT1 := Lib.hid ht1; clear ht1
    generalize zs.getD 0 (0, 0) = z at *
    obtain ⟨x, y⟩ := z
    dsimp only at e0 e1 HT1
    have f0 : w.cell? ⟨bl, off, none⟩ = some (.int .i64 x) := by simpa using e0
    have f1 : w.cell? ⟨bl, off + 1, none⟩ = some (.int .i64 y) := by simpa using e1
    clear e0 e1
    have n0 : bl ≠ w.heap.size := by omega
    have RV := Lib.hid (fun W => (show Calls _ _ _ _ (RB W _) from (rsvalid_any x y W).mono (fun _ _ hh => ⟨hh.1, hh.2 ▸ (Below.refl _ _).alloc (Nat.le_refl _) _⟩)))
    cases hv : vS x y with
    | false =>
      rw [hv] at RV
      have hno := stuck_all (zs := zs) (q := 1) (b0 := true) (c := (0, 0)) (by rw [HT1.out, hv]; rfl)
      rw [comV_no h0 hno]
      clear hno hv
      go_enter Try.func23, Try.ntmps23
      go_wp2_with fail
      refine (RV.out _).mono ?_
      rintro e w1 ⟨rfl, hb1⟩
      have K1 : Below w.heap.size w w1 := kept_call hb1 (by (repeat' (first | (with_reducible exact Below.refl _ _) | (with_reducible refine Below.setCell ?_ ?_ _) | (with_reducible refine Below.alloc ?_ ?_ _) | (with_reducible refine Below.drew ?_) | (with_reducible refine below_drewN ?_ _))) <;> (first | omega | (simp <;> omega)))
      have Z1 : w.heap.size ≤ w1.heap.size := K1.size
      have b1_0 := Blk.keep (g := w.heap.size) hb1 (by (repeat' (first | ((with_reducible refine' Blk.newE ?_); first | rfl | (simp; done)) | (with_reducible refine' Blk.alloc ?_ _) | (with_reducible refine' Blk.drew ?_) | (with_reducible refine' Blk.drewN ?_ _) | (with_reducible refine' Blk.put ?_ ?_) | (with_reducible refine' Blk.far ?_ ?_ _) | exact rfl)) <;> (first | omega | (simp <;> omega)))
      (try simp only [List.setIfInBounds_toArray, List.set_cons_zero, List.set_cons_succ] at b1_0)
      clear hb1
      obtain ⟨c1_0, f1_0, l1_0, e1_0, k1_0⟩ := Blk.facts b1_0
      have o1_0 := l1_0
      go_wp2
      exact bodyPost_ret (v := .tuple #[.agg #[.int .i64 0, .int .i64 0], .bool false]) (by simp [results, Try.results23, go_sem, *]) rfl ⟨rfl, (by (repeat' (first | (with_reducible exact K1) | (with_reducible refine Below.setCell ?_ ?_ _) | (with_reducible refine Below.alloc ?_ ?_ _) | (with_reducible refine Below.drew ?_) | (with_reducible refine below_drewN ?_ _))) <;> (first | omega | (simp <;> omega)))⟩
    | true =>
      rw [hv] at RV
      have hc1 : comS (zs.take 1) true = ((x, y), true) := by rw [HT1.out, hv]; rfl
      have HC1 := Lib.hid hc1; clear hc1
      go_enter Try.func23, Try.ntmps23
      go_wp2_with fail
      refine (RV.out _).mono ?_
      rintro e w1 ⟨rfl, hb1⟩
      have K1 : Below w.heap.size w w1 := kept_call hb1 (by (repeat' (first | (with_reducible exact Below.refl _ _) | (with_reducible refine Below.setCell ?_ ?_ _) | (with_reducible refine Below.alloc ?_ ?_ _) | (with_reducible refine Below.drew ?_) | (with_reducible refine below_drewN ?_ _))) <;> (first | omega | (simp <;> omega)))
      have Z1 : w.heap.size ≤ w1.heap.size := K1.size
      have b1_0 := Blk.keep (g := w.heap.size) hb1 (by (repeat' (first | ((with_reducible refine' Blk.newE ?_); first | rfl | (simp; done)) | (with_reducible refine' Blk.alloc ?_ _) | (with_reducible refine' Blk.drew ?_) | (with_reducible refine' Blk.drewN ?_ _) | (with_reducible refine' Blk.put ?_ ?_) | (with_reducible refine' Blk.far ?_ ?_ _) | exact rfl)) <;> (first | omega | (simp <;> omega)))
      (try simp only [List.setIfInBounds_toArray, List.set_cons_zero, List.set_cons_succ] at b1_0)
      clear hb1
      obtain ⟨c1_0, f1_0, l1_0, e1_0, k1_0⟩ := Blk.facts b1_0
      have o1_0 := l1_0
      have f0 := (K1.cell (p := ⟨bl, off, none⟩) hb).trans f0
      have f1 := (K1.cell (p := ⟨bl, off + 1, none⟩) hb).trans f1
      have nb : bl < w1.heap.size := by omega
      have ngw : w.heap.size + 1 ≤ w1.heap.size := by omega
      go_wp2
      obtain ⟨cb, hcb⟩ : ∃ cb, cb = w1.heap.size := ⟨_, rfl⟩
      have bC : Blk (w1.alloc (.cells #[.int .i64 x, .int .i64 y] 35)) cb 35 #[.int .i64 x, .int .i64 y] := by rw [hcb]; exact Blk.new _ _ _
      have bZ : Blk (w1.alloc (.cells #[.int .i64 x, .int .i64 y] 35)) w.heap.size 35 #[.int .i64 0, .int .i64 0] := b1_0.alloc _
      have KA : Below w.heap.size w (w1.alloc (.cells #[.int .i64 x, .int .i64 y] 35)) := K1.alloc (by omega) _
      have hcw : w.heap.size < cb := by omega
      rw [← hcb]
      generalize (w1.alloc (.cells #[.int .i64 x, .int .i64 y] 35)) = w2 at *
      clear b1_0 c1_0 f1_0 l1_0 e1_0 k1_0 K1 Z1 f0 f1 nb ngw hcb RV n0 hv
      go_loopg [5] (zs.length - 1) (fun G i wr => RCom w cb zs G i wr)
      case atStart => exact ⟨1, x, y, by omega, by omega, rfl, rfl, HC1.out, bZ, bC, KA⟩
      case round =>
        obtain ⟨q, c0, c1, hq1, hq, rfl, rfl, hcm, bZ', bC', KR⟩ := hrel
        clear bZ bC KA
        have ZR := KR.size
        have HCM := Lib.hid hcm; clear hcm
        obtain ⟨cZ, fZ, lZ, -, -⟩ := Blk.facts bZ'
        obtain ⟨cC, fC, lC, -, -⟩ := Blk.facts bC'
        by_cases hlt : q < zs.length
        · have gk : decide ((q : Int) < (zs.length : Int)) = true := decide_eq_true (by omega)
          have wq : IntKind.i64.wrap ((q : Int) + 1) = ((q + 1 : Nat) : Int) := by rw [IntWalk.i64_in _ (by omega)]; omega
          obtain ⟨e0, e1⟩ := HCS.out q hlt
          have hnx : comS (zs.take (q + 1)) true = stepC ((c0, c1), true) (zs.getD q (0, 0)) := by rw [take_snocC (0, 0) zs hlt, comS_snoc, HCM.out]
          generalize zs.getD q (0, 0) = u at *
          obtain ⟨u0, u1⟩ := u
          dsimp only at e0 e1
          rw [show stepC ((c0, c1), true) (u0, u1) = ((mtLo c0 c1 u0 u1, mtHi c0 c1 u0 u1), mtB c0 c1 u0 u1) from by simp [stepC]] at hnx
          have HNX := Lib.hid hnx; clear hnx
          have E0 : ∀ W, Below w.heap.size w W → W.cell? ⟨bl, off + q * 2, none⟩ = some (.int .i64 u0) := fun W h => (h.cell (p := ⟨bl, off + q * 2, none⟩) hb).trans e0
          have E1 : ∀ W, Below w.heap.size w W → W.cell? ⟨bl, off + q * 2 + 1, none⟩ = some (.int .i64 u1) := fun W h => (h.cell (p := ⟨bl, off + q * 2 + 1, none⟩) hb).trans e1
          clear e0 e1
          have RM := Lib.hid (fun W => rmeet_all c0 c1 u0 u1 W)
          obtain ⟨ml, hml⟩ : ∃ v, mtLo c0 c1 u0 u1 = v := ⟨_, rfl⟩
          obtain ⟨mh, hmh⟩ : ∃ v, mtHi c0 c1 u0 u1 = v := ⟨_, rfl⟩
          obtain ⟨mb, hmb⟩ : ∃ v, mtB c0 c1 u0 u1 = v := ⟨_, rfl⟩
          rw [hml, hmh, hmb] at RM HNX
          clear hml hmh hmb
          have lcb : cb < wr.heap.size := lC
          go_upto_region 7 with fail
          refine wp_region_calm (by kernel_rfl) (fun n us w' => Below w.heap.size w w' ∧ Blk w' w.heap.size 35 #[.int .i64 0, .int .i64 0] ∧ Blk w' cb 35 #[.int .i64 c0, .int .i64 c1] ∧ wr.heap.size ≤ w'.heap.size ∧ NewC wr.heap.size 35 #[.int .i64 0, .int .i64 0] n us w') (fun _ _ => True) [(Is (.agg #[.int .i64 c0, .int .i64 c1])), (Is (.slice (some ⟨bl, off, none⟩) zs.length cap)), (Is (.int .i64 (q : Int))), (Is (.pointer (some ⟨bl, off + q * 2, none⟩))), (Is (.agg #[.int .i64 u0, .int .i64 u1])), (Is (.tuple #[.agg #[.int .i64 ml, .int .i64 mh], .bool mb])), (Is (.tuple #[.agg #[.int .i64 ml, .int .i64 mh], .bool mb])), (Is (.agg #[.int .i64 ml, .int .i64 mh])), (Is (.bool mb)), (fun _ _ _ => True), (fun _ _ _ => True), (Is (.bool mb))] [[], [], [], [1, 2], [3], [0, 4], [5], [6], [6], [], [7], [8]] [9, 10] [9, 7] rfl (by kernel_rfl) (fun u => by (simp only [calmPut, Act.put, List.setIfInBounds_toArray, List.set_cons_zero, List.set_cons_succ, Nat.zero_add, Nat.reduceAdd]; rfl)) ?_ (calmKeep_cons keep_is' (calmKeep_cons keep_is' (calmKeep_cons keep_is' (calmKeep_cons keep_is' (calmKeep_cons keep_is' (calmKeep_cons keep_is' (calmKeep_cons keep_is' (calmKeep_cons keep_is' (calmKeep_cons keep_is' (calmKeep_cons keep_triv (calmKeep_cons keep_triv (calmKeep_cons keep_is' (calmKeep_nil))))))))))))) ?_ ?_
          · intro _
            exact ⟨KR.drew, bZ'.drew, bC'.drew, Nat.le_refl _, .inl rfl⟩
          · skip
            refine calmSteps_cons (fun u wq n hn hn2 hC hk K hK => ?_) ?_
            · obtain ⟨hP, mZ, mC, hS, hN⟩ := hC
              clear hk
              have zC := mC.cell
              go_simp
              exact hK _ _ _ rfl ⟨hP, mZ, mC, hS, hN⟩ trivial rfl
            refine calmSteps_cons (fun u wq n hn hn2 hC hk K hK => ?_) ?_
            · obtain ⟨hP, mZ, mC, hS, hN⟩ := hC
              clear hk
              have zC := mC.cell
              go_simp
              exact hK _ _ _ rfl ⟨hP, mZ, mC, hS, hN⟩ trivial rfl
            refine calmSteps_cons (fun u wq n hn hn2 hC hk K hK => ?_) ?_
            · obtain ⟨hP, mZ, mC, hS, hN⟩ := hC
              clear hk
              have zC := mC.cell
              go_simp
              exact hK _ _ _ rfl ⟨hP, mZ, mC, hS, hN⟩ trivial rfl
            refine calmSteps_cons (fun u wq n hn hn2 hC hk K hK => ?_) ?_
            · obtain ⟨hP, mZ, mC, hS, hN⟩ := hC
              simp only [calmKnown, List.getElem?_cons_zero, List.getElem?_cons_succ, and_true, Is, Pure, Option.some.injEq, List.getD_cons_zero, List.getD_cons_succ, List.map_cons, List.map_nil] at hk
              obtain ⟨h1, h2⟩ := hk
              simp only [h1, h2] at hK ⊢
              have H1 := Lib.hid h1; clear h1; have H2 := Lib.hid h2; clear h2
              have zC := mC.cell
              go_simp
              exact hK _ _ _ rfl ⟨hP, mZ, mC, hS, hN⟩ trivial rfl
            refine calmSteps_cons (fun u wq n hn hn2 hC hk K hK => ?_) ?_
            · obtain ⟨hP, mZ, mC, hS, hN⟩ := hC
              simp only [calmKnown, List.getElem?_cons_zero, List.getElem?_cons_succ, and_true, Is, Pure, Option.some.injEq, List.getD_cons_zero, List.getD_cons_succ, List.map_cons, List.map_nil] at hk
              have h3 := hk; clear hk
              simp only [h3] at hK ⊢
              have H3 := Lib.hid h3; clear h3
              have zC := mC.cell
              have y0 := E0 _ hP; have y1 := E1 _ hP
              go_simp
              exact hK _ _ _ rfl ⟨hP, mZ, mC, hS, hN⟩ trivial rfl
            refine calmSteps_cons (fun u wq n hn hn2 hC hk K hK => ?_) ?_
            · obtain ⟨hP, mZ, mC, hS, hN⟩ := hC
              simp only [calmKnown, List.getElem?_cons_zero, List.getElem?_cons_succ, and_true, Is, Pure, Option.some.injEq, List.getD_cons_zero, List.getD_cons_succ, List.map_cons, List.map_nil] at hk
              obtain ⟨h0, h4⟩ := hk
              simp only [h0, h4] at hK ⊢
              have H0 := Lib.hid h0; clear h0; have H4 := Lib.hid h4; clear h4
              go_wp2_with fail
              refine (RM.out _).mono ?_
              rintro e w2 ⟨rfl, hbl⟩
              exact hK _ _ _ rfl ⟨kept_call hbl hP, Blk.keep hbl mZ, Blk.keep hbl mC, Nat.le_trans hS hbl.size, NewC.keep hN (Past.below (X := [w.heap.size]) hbl) (by omega)⟩ trivial rfl
            refine calmSteps_cons (fun u wq n hn hn2 hC hk K hK => ?_) ?_
            · obtain ⟨hP, mZ, mC, hS, hN⟩ := hC
              simp only [calmKnown, List.getElem?_cons_zero, List.getElem?_cons_succ, and_true, Is, Pure, Option.some.injEq, List.getD_cons_zero, List.getD_cons_succ, List.map_cons, List.map_nil] at hk
              have h5 := hk; clear hk
              simp only [h5] at hK ⊢
              have H5 := Lib.hid h5; clear h5
              have zC := mC.cell
              go_simp
              exact hK _ _ _ rfl ⟨hP, mZ, mC, hS, hN⟩ trivial rfl
            refine calmSteps_cons (fun u wq n hn hn2 hC hk K hK => ?_) ?_
            · obtain ⟨hP, mZ, mC, hS, hN⟩ := hC
              simp only [calmKnown, List.getElem?_cons_zero, List.getElem?_cons_succ, and_true, Is, Pure, Option.some.injEq, List.getD_cons_zero, List.getD_cons_succ, List.map_cons, List.map_nil] at hk
              have h6 := hk; clear hk
              simp only [h6] at hK ⊢
              have H6 := Lib.hid h6; clear h6
              have hn1 := hn2 1 10 rfl (by kernel_rfl)
              go_simp
              exact hK _ _ _ rfl ⟨hP, mZ, mC, hS, NewC.val (show NewC _ _ _ n [u 9, u 7] wq from hN) hn1⟩ trivial rfl
            refine calmSteps_cons (fun u wq n hn hn2 hC hk K hK => ?_) ?_
            · obtain ⟨hP, mZ, mC, hS, hN⟩ := hC
              simp only [calmKnown, List.getElem?_cons_zero, List.getElem?_cons_succ, and_true, Is, Pure, Option.some.injEq, List.getD_cons_zero, List.getD_cons_succ, List.map_cons, List.map_nil] at hk
              have h6 := hk; clear hk
              simp only [h6] at hK ⊢
              have H6 := Lib.hid h6; clear h6
              have zC := mC.cell
              go_simp
              exact hK _ _ _ rfl ⟨hP, mZ, mC, hS, hN⟩ trivial rfl
            refine calmSteps_cons (fun u wq n hn hn2 hC hk K hK => ?_) ?_
            · obtain ⟨hP, mZ, mC, hS, hN⟩ := hC
              clear hk
              obtain rfl := hn 0 rfl
              go_simp
              exact hK _ _ _ rfl ⟨hP.alloc hP.size _, mZ.alloc _, mC.alloc _, by simp; omega, NewC.made (x := u 7) hS⟩ trivial trivial
            refine calmSteps_cons (fun u wq n hn hn2 hC hk K hK => ?_) ?_
            · obtain ⟨hP, mZ, mC, hS, hN⟩ := hC
              simp only [calmKnown, List.getElem?_cons_zero, List.getElem?_cons_succ, and_true, Is, Pure, Option.some.injEq, List.getD_cons_zero, List.getD_cons_succ, List.map_cons, List.map_nil] at hk
              have h7 := hk; clear hk
              simp only [h7] at hK ⊢
              have H7 := Lib.hid h7; clear h7
              obtain rfl := hn 1 rfl
              obtain ⟨g, h9, gb, gl, hB⟩ := NewC.one (show NewC _ _ _ 1 [u 9, u 7] wq from hN)
              simp only [h9] at hK ⊢
              have H9 := Lib.hid h9; clear h9 hN
              have hz0 := hB.cell; have hf0 := hB.frozen; have hl0 := hB.lt
              have hB2 : Blk _ _ _ _ := ((hB.set_ 0 (.int .i64 ml)).set_ 1 (.int .i64 mh))
              simp only [List.setIfInBounds_toArray, List.set_cons_zero, List.set_cons_succ] at hB2
              have nb : w.heap.size ≠ g := by omega
              have nb2 : cb ≠ g := by omega
              go_simp
              exact hK _ undef _ rfl ⟨(hP.setCell (by simp; omega) _).setCell (by simp; omega) _, (mZ.far nb _).far nb _, (mC.far nb2 _).far nb2 _, by simp; omega, (show NewC _ _ _ 2 [u 9, u 7] _ from by rw [H9.out, H7.out]; exact NewC.stored gb hB2)⟩ trivial trivial
            refine calmSteps_cons (fun u wq n hn hn2 hC hk K hK => ?_) ?_
            · obtain ⟨hP, mZ, mC, hS, hN⟩ := hC
              simp only [calmKnown, List.getElem?_cons_zero, List.getElem?_cons_succ, and_true, Is, Pure, Option.some.injEq, List.getD_cons_zero, List.getD_cons_succ, List.map_cons, List.map_nil] at hk
              have h8 := hk; clear hk
              simp only [h8] at hK ⊢
              have H8 := Lib.hid h8; clear h8
              have zC := mC.cell
              go_simp
              exact hK _ _ _ rfl ⟨hP, mZ, mC, hS, hN⟩ trivial rfl
            exact calmSteps_nil
          · intro u w5 hC hF
            obtain ⟨hP, mZ, mC, hS, hN⟩ := hC
            obtain ⟨g, cs5, g9, gb, g6, hB⟩ := NewC.last (show NewC _ _ _ 2 [u 9, u 7] w5 from hN)
            simp only [calmFacts, Pure, Is, List.map_cons, List.map_nil, and_true, Nat.zero_add, Nat.reduceAdd] at hF
            obtain ⟨-, -, -, -, -, -, -, h7, -, h11⟩ := hF
            rw [g6] at h7
            obtain rfl : cs5 = _ := by injection h7
            simp only [g9, h11]
            clear h7 g6 g9 hN h11 bZ' cZ fZ lZ bC' cC fC lC KR
            obtain ⟨cZ, fZ, lZ, -, -⟩ := Blk.facts mZ
            obtain ⟨cC, fC, lC, -, -⟩ := Blk.facts mC
            obtain ⟨cB, fB, lB, -, -⟩ := Blk.facts hB
            have nb2 : cb ≠ g := by omega
            have nb : w.heap.size ≠ g := by omega
            have nb3 : w.heap.size ≠ cb := by omega
            cases mb with
            | false =>
              have hno := stuck_all HNX.out
              have HV := Lib.hid (comV_no h0 hno); clear hno
              go_wp2
              exact bodyPost_ret (v := .tuple #[.agg #[.int .i64 0, .int .i64 0], .bool false]) (by simp [results, Try.results23, go_sem, *]) rfl ⟨by rw [HV.out], by (repeat' (first | (with_reducible exact hP) | (with_reducible refine Below.setCell ?_ ?_ _) | (with_reducible refine Below.alloc ?_ ?_ _) | (with_reducible refine Below.drew ?_) | (with_reducible refine below_drewN ?_ _))) <;> (first | omega | (simp <;> omega))⟩
            | true =>
              go_wp2
              go_roundg (zs.length - (q + 1))
              case measure => omega
              case rel => exact ⟨q + 1, ml, mh, by omega, by omega, by omega, by go_num, HNX.out, by (repeat' (first | (with_reducible exact mZ) | (with_reducible refine' Blk.alloc ?_ _) | (with_reducible refine' Blk.drew ?_) | (with_reducible refine' Blk.drewN ?_ _) | (with_reducible refine' Blk.put ?_ ?_) | (with_reducible refine' Blk.far ?_ ?_ _) | exact mZ | exact rfl)) <;> (first | omega | (simp <;> omega)), by (repeat' (first | (with_reducible exact mC) | (with_reducible refine' Blk.alloc ?_ _) | (with_reducible refine' Blk.drew ?_) | (with_reducible refine' Blk.drewN ?_ _) | (with_reducible refine' Blk.put ?_ ?_) | (with_reducible refine' Blk.far ?_ ?_ _) | exact mC | exact rfl)) <;> (first | omega | (simp <;> omega)), by (repeat' (first | (with_reducible exact hP) | (with_reducible refine Below.setCell ?_ ?_ _) | (with_reducible refine Below.alloc ?_ ?_ _) | (with_reducible refine Below.drew ?_) | (with_reducible refine below_drewN ?_ _))) <;> (first | omega | (simp <;> omega))⟩
        · obtain rfl : zs.length = q := by omega
          have gk : decide ((zs.length : Int) < (zs.length : Int)) = false := decide_eq_false (by omega)
          have hcv := HCM.out
          rw [List.take_length] at hcv
          have HV := Lib.hid (comV_of h0 hcv); clear hcv
          go_wp2
          exact bodyPost_ret (v := .tuple #[.agg #[.int .i64 c0, .int .i64 c1], .bool true]) (by simp [results, Try.results23, go_sem, *]) rfl ⟨by rw [HV.out], by (repeat' (first | (with_reducible exact KR) | (with_reducible refine Below.setCell ?_ ?_ _) | (with_reducible refine Below.alloc ?_ ?_ _) | (with_reducible refine Below.drew ?_) | (with_reducible refine below_drewN ?_ _))) <;> (first | omega | (simp <;> omega))⟩
  · have hn : zs = [] := List.length_eq_zero_iff.1 (by omega)
    subst hn
    rw [comV_nil]
    go_enter Try.func23, Try.ntmps23
    go_wp2
    exact bodyPost_ret (v := .tuple #[.agg #[.int .i64 0, .int .i64 0], .bool false]) (by simp [results, Try.results23, go_sem, *]) rfl ⟨rfl, (by (repeat' (first | (with_reducible exact Below.refl _ _) | (with_reducible refine Below.setCell ?_ ?_ _) | (with_reducible refine Below.alloc ?_ ?_ _) | (with_reducible refine Below.drew ?_) | (with_reducible refine below_drewN ?_ _))) <;> (first | omega | (simp <;> omega)))⟩
end Go.Proofs.Ytlfkkfdolnkjfaa
