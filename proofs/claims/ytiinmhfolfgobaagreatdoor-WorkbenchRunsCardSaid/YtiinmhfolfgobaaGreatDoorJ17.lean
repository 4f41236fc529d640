/- Lemmas. -/
import Derived.Deep.DeepCutAuto
import Derived.Deep.LoopGhost
import Derived.BigQuiet
import Derived.Deep.QuietTactic
import Derived.Deep.RegionWith
import Derived.Test.YtiinmhfolfgobaaGreatDoorJ9
import Derived.Test.YtiinmhfolfgobaaGreatDoorJ10
import Derived.Test.YtiinmhfolfgobaaGreatDoorJ16
import Derived.Test.YtiinmhfolfgobaaGreatDoorJ11
import Derived.Test.YtiinmhfolfgobaaGreatDoorJ15
set_option linter.unusedVariables false
set_option linter.unusedSimpArgs false
namespace Go.Proofs.YtiinmhfolfgobaaGreatDoor
open Go.RowKit Go.Shelf Go.Sort
set_option maxHeartbeats 8000000
set_option maxRecDepth 100000
def Hu (zs : List (Int × Int)) (n x y : Int) (b : Bool) : Prop := ∃ us, LX zs n us ∧ ((us = [] ∧ x = 0 ∧ y = 0 ∧ b = false) ∨ (0 < us.length ∧ x = (us.getD 0 (0, 0)).1 ∧ y = (lastS us).2 ∧ b = true))
def HuR (w : World) (zs : List (Int × Int)) (n : Int) (f : Int → Int → Bool → Value) (e : Ending) (w' : World) : Prop := ∃ (x y : Int) (b : Bool), e = .returned (f x y b) ∧ Hu zs n x y b ∧ Below w.heap.size w w'
def hullT (x y : Int) (b : Bool) : Value := .tuple #[.agg #[.int .i64 x, .int .i64 y], .bool b]
def hullE (x y : Int) (b : Bool) : Value := .tuple #[.agg #[.int .i64 x, .int .i64 y], .int .i64 (if b then 0 else 21)]
theorem hu_ax {zs : List (Int × Int)} {f x y : Int} {b : Bool} (h0 : qE zs f = 0) (h : Hu zs (zs.length - f) x y b) : AX zs f x y (if b then 0 else 21) := by
 obtain ⟨us, h1, ⟨h2, h3, h4, h5⟩ | ⟨h2, h3, h4, h5⟩⟩ := h
 ·exact .inr ⟨h0, us, h1, .inl ⟨h2, h3, h4, by rw [h5]; rfl⟩⟩
 ·exact .inr ⟨h0, us, h1, .inr ⟨h2, h3, h4, by rw [h5]; rfl⟩⟩
theorem qcheck_any (A : Option Addr) (len cap : Nat) (zs : List (Int × Int)) (f : Int) (w : World) (h : SpansAt w A len zs) :
  Calls Tryz.prog 74 #[.slice A len cap, .int .i64 f] w (RB w (.int .i64 (qE zs f))) := by
 obtain rfl := h.1
 have R := Yh (fun W (hW : Below w.heap.size w W) => scount_any A zs.length cap zs 0 W (h.below hW))
 clear h
 obtain ⟨ce, hce⟩ : ∃ ce, ckE zs = ce := ⟨_, rfl⟩
 rw [hce] at R
 by_cases h0 : ce = 0
 ·subst h0
  have hl := (ckE_ok hce).1
  by_cases h1 : f < 0 ∨ (zs.length : Int) ≤ 2 * f
  ·rw [qE_range hce h1]
   have HCE := Yh hce; clear hce
   by_cases h2 : f < 0
   ·have g1 : decide (f < 0) = true := decide_eq_true h2
    clear h1
    go_enter Tryz.func74, Tryz.ntmps74
    go_wp2_with fail
    refine (R.out _ bl0).mono ?_
    rintro e w1 ⟨rfl, hb1⟩
    have K1 : Below w.heap.size w w1 := Yc hb1 bl0
    have Z1 := K1.size
    clear hb1
    go_wp2
    go_ret
    exact ⟨rfl, bl1⟩
   ·have g1 : decide (f < 0) = false := decide_eq_false h2
    have h3 : (zs.length : Int) ≤ 2 * f := by omega
    clear h1
    by_cases h4 : (zs.length : Int) < f
    ·have g2 : decide ((zs.length : Int) < f) = true := decide_eq_true h4
     go_enter Tryz.func74, Tryz.ntmps74
     go_wp2_with fail
     refine (R.out _ bl0).mono ?_
     rintro e w1 ⟨rfl, hb1⟩
     have K1 : Below w.heap.size w w1 := Yc hb1 bl0
     have Z1 := K1.size
     clear hb1
     go_wp2
     go_ret
     exact ⟨rfl, bl1⟩
    ·have g2 : decide ((zs.length : Int) < f) = false := decide_eq_false h4
     have wf : IntKind.i64.wrap (2 * f) = 2 * f := IntWalk.i64_in _ Yo
     have g3 : decide ((zs.length : Int) ≤ 2 * f) = true := decide_eq_true h3
     clear h3
     go_enter Tryz.func74, Tryz.ntmps74
     go_wp2_with fail
     refine (R.out _ bl0).mono ?_
     rintro e w1 ⟨rfl, hb1⟩
     have K1 : Below w.heap.size w w1 := Yc hb1 bl0
     have Z1 := K1.size
     clear hb1
     go_wp2
     go_ret
     exact ⟨rfl, bl1⟩
  ·rw [qE_ok hce h1]
   have HCE := Yh hce; clear hce
   have g1 : decide (f < 0) = false := Y3
   have g2 : decide ((zs.length : Int) < f) = false := Y3
   have wf : IntKind.i64.wrap (2 * f) = 2 * f := IntWalk.i64_in _ Yo
   have g3 : decide ((zs.length : Int) ≤ 2 * f) = false := Y3
   clear h1
   go_enter Tryz.func74, Tryz.ntmps74
   go_wp2_with fail
   refine (R.out _ bl0).mono ?_
   rintro e w1 ⟨rfl, hb1⟩
   have K1 : Below w.heap.size w w1 := Yc hb1 bl0
   have Z1 := K1.size
   clear hb1
   go_wp2
   go_ret
   exact ⟨rfl, bl1⟩
 ·rw [qE_bad (by rw [hce]; exact h0), hce]
  have HCE := Yh hce; clear hce
  have g0 : decide (ce = 0) = false := decide_eq_false h0
  have g0b : (ce == 0) = false := by rw [beq_eq_false_iff_ne]; exact h0
  go_enter Tryz.func74, Tryz.ntmps74
  go_wp2_with fail
  refine (R.out _ bl0).mono ?_
  rintro e w1 ⟨rfl, hb1⟩
  have K1 : Below w.heap.size w w1 := Yc hb1 bl0
  have Z1 := K1.size
  clear hb1
  go_wp2
  go_ret
  exact ⟨rfl, bl1⟩
theorem qagree_any (A : Option Addr) (len cap : Nat) (zs : List (Int × Int)) (n : Int) (hc : ckE zs = 0) (hn : 1 ≤ n) (w : World) (h : SpansAt w A len zs) :
  Calls Tryz.prog 75 #[.slice A len cap, .int .i64 n] w (HuR w zs n hullT) := by
 have hle := lE_ok hc (show ¬ n < 1 by omega)
 have R := Yh (fun W (hW : Below w.heap.size w W) => sLeast_any A len cap zs n W (h.below hW))
 have HLE := Yh hle; clear h hle hc
 go_enter Tryz.func75, Tryz.ntmps75
 go_wp2_with fail
 refine (R.out _ bl0).mono ?_
 rintro e w1 ⟨A2, c2, us, rfl, hsp, hlx, hb1⟩
 have K1 : Below w.heap.size w w1 := Yc hb1 bl0
 have Z1 := K1.size
 have b1_0 := Yk (g := w.heap.size) hb1 bn0
 (try simp only [lst, ls0, ls1] at b1_0)
 clear hb1
 obtain ⟨c1_0, f1_0, l1_0, e1_0, k1_0⟩ := Yf b1_0
 have o1_0 := l1_0
 rw [HLE.out]
 have hul := hsp.2.1
 by_cases hu : us = []
 ·subst hu
  simp only [List.length_nil]
  go_wp2
  exact Yb (v := hullT 0 0 false) (by simp [results, Tryz.results75, go_sem, *, hullT]) rfl ⟨0, 0, false, rfl, ⟨[], hlx, .inl ⟨rfl, rfl, rfl, rfl⟩⟩, bl1⟩
 ·have hl0 : 0 < us.length := List.length_pos_iff.2 hu
  have g0 : decide ((us.length : Int) = 0) = false := Y3
  have g0b : ((us.length : Int) == 0) = false := Y5
  have g0n : decide (us.length = 0) = false := Y3
  have g0nb : (us.length == 0) = false := Y5
  have gu : us ≠ [] := hu
  obtain ⟨r, hr⟩ : ∃ r : Nat, us.length = r + 1 := ⟨us.length - 1, Yo⟩
  have wr1 : IntKind.i64.wrap ((us.length : Int) - 1) = (r : Int) := Y4
  obtain ⟨bl, off, rfl, hbl, hcs⟩ := hsp.2.2 hl0
  have e0 : w1.cell? ⟨bl, off, none⟩ = some (.int .i64 (us.getD 0 (0, 0)).1) := by simpa using (hcs 0 hl0).1
  have e1 := (hcs r Yo).2
  clear hcs hsp
  have hz1 : (lastS us).2 = (us.getD r (0, 0)).2 := by unfold lastS; rw [show us.length - 1 = r by omega]
  obtain ⟨x, hx⟩ : ∃ x, (us.getD 0 (0, 0)).1 = x := ⟨_, rfl⟩
  obtain ⟨y, hy⟩ : ∃ y, (us.getD r (0, 0)).2 = y := ⟨_, rfl⟩
  rw [hx] at e0
  rw [hy] at e1 hz1
  have grp : r < us.length := by omega
  have gr : decide ((r : Int) < (us.length : Int)) = true := Y2
  have grn : decide (r < us.length) = true := Y2
  have g00 : decide (0 < (us.length : Int)) = true := Y2
  have g00n : decide (0 < us.length) = true := decide_eq_true hl0
  have E := Yh (fun (W : World) (hW : Below w1.heap.size w1 W) => Ya hbl (Ya ((hW.cell (p := ⟨bl, off, none⟩) hbl).trans e0) ((hW.cell (p := ⟨bl, off + r * 2 + 1, none⟩) hbl).trans e1)))
  have HX := Yh hx; have HY := Yh hz1; have HR := Yh hr; have HLX := Yh hlx; clear hx hy hz1 hlx hr hu e0 e1
  have br := b1_0
  obtain ⟨cr, fr, lr, er, kr⟩ := Yf br
  have K1r := K1
  go_upto_region 4 with fail
  refine' wp_region_calm Yr (fun n _ w' => Below w.heap.size w w' ∧ (n = 0 → Below w1.heap.size w1 w' ∧ Blk w' (w.heap.size) 40 #[.int .i64 0, .int .i64 0]) ∧ (n = 1 → Blk w' (w.heap.size) 40 #[.int .i64 x, .int .i64 y])) (fun _ _ => True) [Is _, Is _, Is _, Is _, Is _, Is _, Is _, Is _, Is _, Is _, Is _, Is _, (fun _ _ _ => True), Is _] [[], [0], [1], [2], [], [], [5], [6], [4, 7], [8], [9], [3, 10], [11], []] [12] [] rfl Yr Yp ?_ (Y1 (Y1 (Y1 (Y1 (Y1 (Y1 (Y1 (Y1 (Y1 (Y1 (Y1 (Y1 (Y0 (Y1 Yn)))))))))))))) ?_ ?_
  ·intro _
   exact ⟨bl1, (fun _ => ⟨bl0, bn1⟩), Ye⟩
  rotate_left 13
  ·skip
   iterate 3 refine zq0 ?_
   refine zq1 (fun _ _ n _ hn2 ⟨_, hR0, _⟩ => have hn0 : n = 0 := Nat.le_zero.1 (hn2 0 12 rfl Yr); have hQ := (hR0 hn0).1; Ya hn0 (Ya hQ (E.out _ hQ))) ?_
   iterate 6 refine zq0 ?_
   refine zq1 (fun _ _ n _ hn2 ⟨_, hR0, _⟩ => have hn0 : n = 0 := Nat.le_zero.1 (hn2 0 12 rfl Yr); have hQ := (hR0 hn0).1; Ya hn0 (Ya hQ (E.out _ hQ))) ?_
   refine zq0 ?_
   refine Yz (fun u wq n hn hn2 hC hk K hK => ?_) ?_
   ·obtain ⟨hP, hR0, hR1⟩ := hC
    simp only [calmKnown, lg0, lg1, and_true, Is] at hk
    have h11 := hk; clear hk
    simp only [h11] at hK ⊢
    have H11 := Yh h11; clear h11
    obtain rfl := hn 0 rfl
    have hB := (hR0 rfl).2
    clear hR0 hR1
    have hz0 := hB.cell; have hf0 := hB.frozen; have hl0 := hB.lt
    have hB2 := setAll_blk [.int .i64 x, .int .i64 y] 0 wq _ hB
    simp only [setArr, lst, ls0, ls1, Nat.zero_add, Nat.reduceAdd] at hB2
    go_simp
    exact hK _ undef _ rfl ⟨bl1, Ye, (fun _ => hB2)⟩ trivial trivial
   refine zq0 ?_
   exact Yw
  ·intro u w2 hC hF
   obtain ⟨hP, hR0, hR1⟩ := hC
   simp only [calmFacts, Is, and_true, true_and] at hF
   obtain ⟨f0, f1, f2, f3, f4, f5, f6, f7, f8, f9, f10, f11, f13⟩ := hF
   simp only [f0, f1, f2, f3, f4, f5, f6, f7, f8, f9, f10, f11, f13]
   clear f0 f1 f2 f3 f4 f5 f6 f7 f8 f9 f10 f11 f13
   have br' := hR1 rfl
   clear hR0 hR1 br cr fr lr er kr; have br := br'; clear br'
   have K2 := hP; clear hP
   clear b1_0 c1_0 f1_0 l1_0 e1_0 k1_0
   obtain ⟨cr, fr, lr, er, kr⟩ := Yf br
   go_wp2
   exact Yb (v := hullT x y true) (by simp [results, Tryz.results75, go_sem, *, hullT]) rfl ⟨x, y, true, rfl, ⟨us, HLX.out, .inr ⟨hl0, HX.out.symm, HY.out.symm, rfl⟩⟩, bl1⟩
theorem qAgree_any (A : Option Addr) (len cap : Nat) (zs : List (Int × Int)) (f : Int) (w : World) (h : SpansAt w A len zs) :
  Calls Tryz.prog 52 #[.slice A len cap, .int .i64 f] w (AgR w zs f) := by
 obtain rfl := h.1
 have R := Yh (fun W (hW : Below w.heap.size w W) => qcheck_any A zs.length cap zs f W (h.below hW))
 have Q := Yh (fun (h1 : ckE zs = 0) (h2 : 1 ≤ (zs.length : Int) - f) W (hW : Below w.heap.size w W) => qagree_any A zs.length cap zs ((zs.length : Int) - f) h1 h2 W (h.below hW))
 clear h
 obtain ⟨qe, hqe⟩ : ∃ qe, qE zs f = qe := ⟨_, rfl⟩
 rw [hqe] at R
 have HQE := Yh hqe; clear hqe
 go_enter Tryz.func52, Tryz.ntmps52
 go_wp2_with fail
 refine (R.out _ bl0).mono ?_
 rintro e w1 ⟨rfl, hb1⟩
 have K1 : Below w.heap.size w w1 := Yc hb1 bl0
 have Z1 := K1.size
 have b1_0 := Yk (g := w.heap.size) hb1 bn0
 (try simp only [lst, ls0, ls1] at b1_0)
 clear hb1
 obtain ⟨c1_0, f1_0, l1_0, e1_0, k1_0⟩ := Yf b1_0
 have o1_0 := l1_0
 by_cases h0 : qe = 0
 ·subst h0
  obtain ⟨hc0, hf0, hf1⟩ := qE_parts HQE.out
  have hl64 := (ckE_ok hc0).1
  have wlf : IntKind.i64.wrap ((zs.length : Int) - f) = (zs.length : Int) - f := IntWalk.i64_in _ Yo
  have HC0 := Yh hc0; clear hc0
  go_wp2_with fail
  refine (Q.out HC0.out Yo _ bl1).mono ?_
  rintro e w2 ⟨x, y, b, rfl, hhu, hb2⟩
  have K2 : Below w.heap.size w w2 := Yc hb2 bl1
  have Z2 := K2.size
  have b1_0' := Yk (g := w.heap.size) hb2 bn1
  (try simp only [lst, ls0, ls1] at b1_0')
  clear hb2 K1
  clear b1_0 c1_0 f1_0 l1_0 e1_0 k1_0; have b1_0 := b1_0'; clear b1_0'
  obtain ⟨c1_0, f1_0, l1_0, e1_0, k1_0⟩ := Yf b1_0
  have hax := hu_ax HQE.out hhu
  have HAX := Yh hax; clear hax hhu
  cases b with
  | true =>
   have HAX2 := HAX.out
   simp only [if_true, if_false, Bool.false_eq_true] at HAX2
   have HAX := Yh HAX2; clear HAX2
   unfold hullT
   simp only [if_true, if_false, Bool.false_eq_true]
   go_wp2
   exact Yb (v := .tuple #[.agg #[.int .i64 x, .int .i64 y], .int .i64 0]) (by simp [results, Tryz.results52, go_sem, *]) rfl ⟨x, y, 0, rfl, HAX.out, bl1⟩
  | false =>
   have HAX2 := HAX.out
   simp only [if_true, if_false, Bool.false_eq_true] at HAX2
   have HAX := Yh HAX2; clear HAX2
   unfold hullT
   simp only [if_true, if_false, Bool.false_eq_true]
   obtain ⟨rfl, rfl⟩ : x = 0 ∧ y = 0 := by rcases HAX.out with ⟨-, h1, h2, -⟩ | ⟨-, us, -, ⟨-, h1, h2, -⟩ | ⟨-, -, -, h⟩⟩ <;> first | exact ⟨h1, h2⟩ | (simp at h)
   go_wp2
   exact Yb (v := .tuple #[.agg #[.int .i64 0, .int .i64 0], .int .i64 21]) (by simp [results, Tryz.results52, go_sem, *]) rfl ⟨0, 0, 21, rfl, HAX.out, bl1⟩
 ·have g0 : decide (qe = 0) = false := decide_eq_false h0
  have g0b : (qe == 0) = false := by rw [beq_eq_false_iff_ne]; exact h0
  go_wp2
  exact Yb (v := .tuple #[.agg #[.int .i64 0, .int .i64 0], .int .i64 qe]) (by simp [results, Tryz.results52, go_sem, *]) rfl ⟨0, 0, qe, rfl, .inl ⟨by rw [HQE.out]; exact h0, rfl, rfl, HQE.out.symm⟩, bl1⟩
end Go.Proofs.YtiinmhfolfgobaaGreatDoor
namespace Go.Proofs.YtiinmhfolfgobaaGreatDoor
open Go.RowKit
end Go.Proofs.YtiinmhfolfgobaaGreatDoor
namespace Go.Proofs.YtiinmhfolfgobaaGreatDoor
open Go.RowKit Go.Shelf Go.Sort
set_option maxHeartbeats 8000000
set_option maxRecDepth 100000
def ChRel (w : World) (zs : List (Int × Int)) (G : Nat) (i : Value) (wr : World) : Prop := ∃ q : Nat, q ≤ zs.length ∧ G = zs.length - q ∧ i = .int .i64 q ∧ (∀ j, j < q → vS (zs.getD j (0, 0)).1 (zs.getD j (0, 0)).2 = true) ∧ Below w.heap.size w wr
theorem rswcheck_any (A : Option Addr) (len cap : Nat) (zs : List (Int × Int)) (w : World) (h : SpansAt w A len zs) :
  Calls Tryz.prog 220 #[.slice A len cap] w (RB w (.int .i64 (ckE zs))) := by
 have hz := h.1
 have hlm := h.2.1
 subst hz
 have H := Yh h; clear h
 by_cases h64 : 64 < zs.length
 ·have g0 : decide (64 < (zs.length : Int)) = true := Y2
  have g0n : decide (64 < zs.length) = true := decide_eq_true h64
  have HV := Yh (ckE_8 h64)
  go_enter Tryz.func220, Tryz.ntmps220
  go_wp2
  go_ret
  exact ⟨by rw [HV.out]; rfl, bl0⟩
 ·have g0 : decide (64 < (zs.length : Int)) = false := Y3
  have g0n : decide (64 < zs.length) = false := decide_eq_false h64
  have H64 := Yh h64; clear h64
  have h64 : zs.length ≤ 64 := by have := H64.out; omega
  go_enter Tryz.func220, Tryz.ntmps220
  go_wp2
  go_loopg [3] zs.length (fun G i wr => ChRel w zs G i wr)
  case atStart => exact ⟨0, Yo, Yo, rfl, fun j hj => by omega, bl0⟩
  case round =>
   obtain ⟨q, hq, rfl, rfl, hs, KR⟩ := hrel
   have ZR := KR.size
   have HS := Yh hs; clear hs
   by_cases hlt : q < zs.length
   ·have gk : decide ((q : Int) < (zs.length : Int)) = true := Y2
    have wq : IntKind.i64.wrap ((q : Int) + 1) = ((q + 1 : Nat) : Int) := Y4
    obtain ⟨bl, off, rfl, hb, hcs⟩ := H.out.2.2 Yo
    obtain ⟨e0, e1⟩ := hcs q hlt
    clear hcs
    have e0 := (KR.cell (p := ⟨bl, off + q * 2, none⟩) hb).trans e0
    have e1 := (KR.cell (p := ⟨bl, off + q * 2 + 1, none⟩) hb).trans e1
    have hbW : bl < wr.heap.size := by omega
    have hmem : zs.getD q (0, 0) ∈ zs := by rw [Y8, Y9 hlt]; exact List.getElem_mem _
    have HME := Yh hmem; clear hmem
    generalize hzz : zs.getD q (0, 0) = z at *
    have HZZ := Yh hzz; clear hzz
    obtain ⟨x, y⟩ := z
    dsimp only at e0 e1
    have RV := Yh (fun W => (show Calls _ _ _ _ (RB W _) from (rsvalid_any x y W).mono (fun _ _ hh => ⟨hh.1, hh.2 ▸ Yl.alloc (Nat.le_refl _) _⟩)))
    cases hv : vS x y with
    | true =>
     rw [hv] at RV
     have HVV := Yh hv; clear hv
     go_wp2_with fail
     refine (RV.out _).mono ?_
     rintro e w2 ⟨rfl, hb2⟩
     have K2 : Below w.heap.size w w2 := Yc hb2 bl1
     have Z2 := K2.size
     clear hb2 KR
     go_wp2
     go_roundg (zs.length - (q + 1))
     case measure => omega
     case rel => exact ⟨q + 1, Yo, Yo, by go_num, fun j hj => by by_cases e9 : j = q; (subst e9; rw [HZZ.out]; exact HVV.out); (exact HS.out j Yo), bl1⟩
    | false =>
     rw [hv] at RV
     have hbad : badS zs = true := by unfold badS anyS; exact List.any_eq_true.2 ⟨_, HME.out, by show (!vS x y) = true; rw [hv]; rfl⟩
     have HV := Yh (ckE_3 H64.out hbad); clear hbad hv
     go_wp2_with fail
     refine (RV.out _).mono ?_
     rintro e w2 ⟨rfl, hb2⟩
     have K2 : Below w.heap.size w w2 := Yc hb2 bl1
     have Z2 := K2.size
     clear hb2 KR
     go_wp2
     go_ret
     exact ⟨by rw [HV.out]; rfl, bl1⟩
   ·obtain rfl : zs.length = q := by omega
    have gk : decide ((zs.length : Int) < (zs.length : Int)) = false := Y3
    have hok : badS zs = false := by unfold badS; rw [anyS_false]; intro j hj; rw [HS.out j hj]; rfl
    have HV := Yh (ckE_0 H64.out hok); clear hok
    go_wp2
    go_ret
    exact ⟨by rw [HV.out]; rfl, bl1⟩
theorem rcnt_any (A : Option Addr) (len cap : Nat) (zs : List (Int × Int)) (t : Int) (h64 : len ≤ 64) (w : World) (h : SpansAt w A len zs) :
  Calls Tryz.prog 249 #[.slice A len cap, .int .i64 t] w (RB w (.int .i64 (cntS zs t))) := by
 have hz := h.1
 have hlm := h.2.1
 subst hz
 have H := Yh h; clear h
 go_enter Tryz.func249, Tryz.ntmps249
 go_wp2
 go_loopg [5, 6] zs.length (fun G v i wr => CtRel w zs t G v i wr)
 case atStart => exact ⟨0, Yo, Yo, rfl, rfl, bl0⟩
 case round =>
   obtain ⟨q, hq, rfl, rfl, rfl, KR⟩ := hrel
   have ZR := KR.size
   have hcb := cntS_nonneg (zs.take q) t
   rw [List.length_take] at hcb
   by_cases hlt : q < zs.length
   ·have gk : decide ((q : Int) < (zs.length : Int)) = true := Y2
    have wq : IntKind.i64.wrap ((q : Int) + 1) = ((q + 1 : Nat) : Int) := Y4
    obtain ⟨bl, off, rfl, hb, hcs⟩ := H.out.2.2 Yo
    obtain ⟨e0, e1⟩ := hcs q hlt
    clear hcs
    have e0 := (KR.cell (p := ⟨bl, off + q * 2, none⟩) hb).trans e0
    have e1 := (KR.cell (p := ⟨bl, off + q * 2 + 1, none⟩) hb).trans e1
    have hbW : bl < wr.heap.size := by omega
    have hsn : cntS (zs.take (q + 1)) t = cntS (zs.take q) t + (if inS t (zs.getD q (0, 0)) then 1 else 0) := by rw [take_snocC (0, 0) zs hlt, cntS_app]; simp [cntS]
    rw [← hdB_inS] at hsn
    generalize zs.getD q (0, 0) = z at *
    obtain ⟨x, y⟩ := z
    dsimp only at e0 e1 hsn
    have HSN := Yh hsn; clear hsn
    obtain ⟨n, hn⟩ : ∃ n, cntS (zs.take q) t = n := ⟨_, rfl⟩
    rw [hn] at hcb HSN ⊢
    have wn : IntKind.i64.wrap (n + 1) = n + 1 := IntWalk.i64_in _ Yo
    have RV := Yh (fun W => rholds_all x y t W)
    cases hb : hdB x y t with
    | true =>
     rw [hb] at RV
     have HBB := Yh hb; clear hb hn
     go_wp2_with fail
     refine (RV.out _).mono ?_
     rintro e w2 ⟨rfl, hb2⟩
     have K2 : Below w.heap.size w w2 := Yc hb2 bl1
     have Z2 := K2.size
     clear hb2 KR
     go_wp2
     go_roundg (zs.length - (q + 1))
     case measure => omega
     case rel => exact ⟨q + 1, Yo, Yo, by go_num, (by rw [HSN.out, HBB.out]; simp), bl1⟩
    | false =>
     rw [hb] at RV
     have HBB := Yh hb; clear hb hn
     go_wp2_with fail
     refine (RV.out _).mono ?_
     rintro e w2 ⟨rfl, hb2⟩
     have K2 : Below w.heap.size w w2 := Yc hb2 bl1
     have Z2 := K2.size
     clear hb2 KR
     go_wp2
     go_roundg (zs.length - (q + 1))
     case measure => omega
     case rel => exact ⟨q + 1, Yo, Yo, by go_num, (by rw [HSN.out, HBB.out]; simp), bl1⟩
   ·obtain rfl : zs.length = q := by omega
    have gk : decide ((zs.length : Int) < (zs.length : Int)) = false := Y3
    have ht : cntS (zs.take zs.length) t = cntS zs t := by rw [List.take_length]
    rw [ht]
    clear ht
    go_wp2
    go_ret
    exact ⟨rfl, bl1⟩
set_option maxHeartbeats 16000000
def LpR (w : World) (n : Int) (ps : List Pc) (e : Ending) (w' : World) : Prop := ∃ (A : Option Addr) (cap : Nat), e = .returned (.slice A (leastP n ps).length cap) ∧ SpansAt w' A (leastP n ps).length (leastP n ps) ∧ Below w.heap.size w w'
theorem rleastp_any (A1 : Option Addr) (len c1 : Nat) (ps : List Pc) (n : Int) (hn : 1 ≤ n) (hcan : PCan ps) (hpi : ∀ p ∈ ps, vS p.lo p.hi = true) (hl128 : len ≤ 128) (w : World) (hpp : PcsAt w A1 len ps) :
  Calls Tryz.prog 238 #[.slice A1 len c1, .int .i64 n] w (LpR w n ps) := by
 have hz := hpp.1
 subst hz
 have HN := Yh hn; clear hn
 have hlaw := fun k => least_law n HN.out (ps.take k) (hcan.take k) (fun p hp => hpi p (List.mem_of_mem_take hp))
 have HPI := Yh hpi; have HPP := Yh hpp; have HLAW := Yh hlaw
 clear hpi hpp hlaw
 go_enter Tryz.func238, Tryz.ntmps238
 go_wp2
 go_loopg [5, 6] ps.length (fun G v5 i wr => MRel w n ps G v5 i wr)
 case atStart => exact ⟨0, Yo, Yo, rfl, RowS.nil, bl0⟩
 case round =>
  obtain ⟨k, hk, rfl, rfl, hrow, KR⟩ := hrel
  have ZR := KR.size
  have HROW := Yh hrow; clear hrow
  by_cases hlt : k < ps.length
  ·have gk : decide ((k : Int) < (ps.length : Int)) = true := Y2
   have wk : IntKind.i64.wrap ((k : Int) + 1) = ((k + 1 : Nat) : Int) := Y4
   obtain ⟨bl, off, rfl, hb, hcs⟩ := HPP.out.2.2 Yo
   obtain ⟨e0, e1, e2⟩ := hcs k hlt
   clear hcs
   have e0 := (KR.cell (p := ⟨bl, off + k * 3, none⟩) hb).trans e0
   have e1 := (KR.cell (p := ⟨bl, off + k * 3 + 1, none⟩) hb).trans e1
   have e2 := (KR.cell (p := ⟨bl, off + k * 3 + 2, none⟩) hb).trans e2
   have hbW : bl < wr.heap.size := by omega
   have hpk := HPI.out (ps.getD k ⟨0, 0, 0⟩) (by rw [Y8, Y9 hlt]; exact List.getElem_mem _)
   have hsn : leastP n (ps.take (k + 1)) = stepL n (leastP n (ps.take k)) (ps.getD k ⟨0, 0, 0⟩) := by rw [take_snocC ⟨0, 0, 0⟩ ps hlt, leastP_snoc]
   have hol := leastP_length n (ps.take k)
   rw [List.length_take] at hol
   have hov := (HLAW.out k).2.1
   generalize ps.getD k ⟨0, 0, 0⟩ = p at *
   obtain ⟨lo, hi, m⟩ := p
   dsimp only at e0 e1 e2 hpk
   have HSN := Yh hsn; have HOV := Yh hov; clear hsn hov
   obtain ⟨p1, p2, p3⟩ := vS_true.1 hpk
   clear hpk
   generalize leastP n (ps.take k) = out at *
   obtain ⟨A3, c3, e3⟩ := RowS.len HROW.out
   subst e3
   have K5 : Below w.heap.size w wr := KR
   have Z5 := ZR
   have HR5 := Yh HROW.out
   clear HROW KR ZR
   generalize wr = w5 at *
   by_cases hm : m < n
   ·have gm : decide (m < n) = true := decide_eq_true hm
    have hst : stepL n out ⟨lo, hi, m⟩ = out := if_pos hm
    have HST := Yh hst; clear hst
    go_wp2
    go_roundg (ps.length - (k + 1))
    case measure => omega
    case rel => exact ⟨k + 1, Yo, Yo, by go_num, by rw [HSN.out, HST.out]; exact HR5.out, bl1⟩
   have gm : decide (m < n) = false := decide_eq_false hm
   have hst : stepL n out ⟨lo, hi, m⟩ = if 0 < out.length ∧ (out.getD (out.length - 1) (0, 0)).2 + 1 = lo then out.set (out.length - 1) ((out.getD (out.length - 1) (0, 0)).1, hi) else out ++ [(lo, hi)] := if_neg hm
   have HST := Yh hst; clear hst
   obtain ⟨i0, hif, hz0, hz1, hz2⟩ := info_parts infoSpan
   by_cases m0 : out.length = 0
   ·have g3 : decide (0 < (out.length : Int)) = false := Y3
    have g3n : decide (0 < out.length) = false := Y3
    have w0 : IntKind.i64.wrap ((out.length : Int) - 1) = -1 := by rw [show (out.length : Int) - 1 = -1 by omega]; rfl
    have had : leastP n (ps.take (k + 1)) = out ++ [(lo, hi)] := by rw [HSN.out, HST.out, if_neg (by rintro ⟨h, -⟩; omega)]
    have HM0 := Yh m0; clear m0
    have HAD := Yh had; clear had
    go_wp2_with fail
    go_quiet (fail)
    go_wp2_with (at_builtin; refine wpList_append_lies _ rfl _ _ 91 rfl w.heap.size 40 i0 (.agg #[.int .i64 0, .int .i64 0]) 2 16 Tryz.underlying91 hif hz0 hz1 hz2 rfl Yd _ (out).length (cellsS (out)) rfl (RowS.alloc (RowS.drewN HR5.out nq) _) ⟨w5.heap.size, 0, none⟩ 1 1 [.int .i64 lo, .int .i64 hi] rfl rfl (World.news_of_block (t := 40) (fr := (0, 0)) (Blk.new _ _ _)) ?c2 Yd ?c3 ?c4 ?c5 _ rfl ?_)
    case c2 => first | exact ⟨rfl, rfl⟩ | exact ⟨rfl, rfl, trivial⟩ | (intro u hu; simp at hu; rcases hu with rfl | rfl <;> rfl)
    case c3 => unfold maxLen; omega
    case c4 => first | omega | (simp; omega)
    case c5 => first | omega | (simp; omega)
    intro g9 cp9 w9 hown hgrow hlie hglt
    have K9 : Below w.heap.size w w9 := ((below_drewN K5 nq).alloc (by show w.heap.size ≤ w5.heap.size; omega) _).grown hgrow (by simp; omega) (fun k hk => (RowS.lt HR5.out k hk).1)
    have hrow9 : RowS w9 w.heap.size (.slice (some ⟨g9, 0, none⟩) (out.length + 1) cp9) ((out) ++ [(lo, hi)]) := by
     unfold RowS
     rw [show ((out) ++ [((lo, hi) : Int × Int)]).length = out.length + 1 from by simp, cellsS_snoc (out)]; exact hown
    clear hown hgrow hlie hglt
    have R9 := Yh hrow9; clear hrow9
    go_wp2
    go_roundg (ps.length - (k + 1))
    case measure => omega
    case rel => exact ⟨k + 1, Yo, Yo, by go_num, by rw [HAD.out]; exact R9.out, K9⟩
   ·obtain ⟨g, cp, eg, hg1, hg2, hgc⟩ := RowS.form HR5.out Yo
    obtain ⟨a, x9, rfl⟩ := snoc_of (l := out) Yo
    have hln : (a ++ [x9]).length = a.length + 1 := by simp
    cases eg
    have hgf := RowS.fz HR5.out
    obtain ⟨d1, d2⟩ := hgc a.length Yo
    have hgl : (a ++ [x9]).getD a.length (0, 0) = x9 := by simp [Y8]
    have hgl2 : (a ++ [x9]).getD ((a ++ [x9]).length - 1) (0, 0) = x9 := by rw [hln]; exact hgl
    have hset : ∀ u : Int × Int, (a ++ [x9]).set ((a ++ [x9]).length - 1) u = a ++ [u] := fun u => by
     rw [hln, Nat.add_sub_cancel, List.set_append, if_neg Yo, Nat.sub_self]; rfl
    rw [hgl] at d1 d2
    clear hgc
    have hst2 : stepL n (a ++ [x9]) ⟨lo, hi, m⟩ = if 0 < (a ++ [x9]).length ∧ x9.2 + 1 = lo then a ++ [(x9.1, hi)] else (a ++ [x9]) ++ [(lo, hi)] := by rw [HST.out, hgl2, hset]
    have HST2 := Yh hst2; have HLN := Yh hln; clear hst2 hgl hgl2 hset HST
    have hbx := vS_true.1 (HOV.out x9 Ys).1
    have hHR : RowS w5 w.heap.size (.slice (some ⟨g, 0, none⟩) (a.length + 1) c3) (a ++ [x9]) := by have := HR5.out; rwa [HLN.out] at this
    rw [hln] at hol ⊢
    clear HR5 hln m0
    have HR5 := Yh hHR; clear hHR
    obtain ⟨xl, xh⟩ := x9
    dsimp only at hbx d1 d2 HST2
    obtain ⟨q, hq⟩ : ∃ q, q = a.length := ⟨_, rfl⟩
    rw [← hq] at d1 d2 hol ⊢
    rw [← hq] at HR5
    have HM := Yh hq; clear hq
    have wm : IntKind.i64.wrap (((q : Int) + 1) - 1) = (q : Int) := by rw [show (q : Int) + 1 - 1 = (q : Int) by omega]; exact IntWalk.i64_in _ Yo
    have wm2 : IntKind.i64.wrap ((((q + 1 : Nat) : Int)) - 1) = (q : Int) := by rw [show (((q + 1 : Nat) : Int)) - 1 = (q : Int) by omega]; exact IntWalk.i64_in _ Yo
    have g3 : decide (0 < (((q + 1 : Nat)) : Int)) = true := Y2
    have g3b : decide (0 < ((q : Int) + 1)) = true := Y2
    have g3c : decide (0 ≤ (q : Int)) = true := Y2
    have nbg : bl ≠ g := by have := hg1; omega
    have hR9 : RowS w5 w.heap.size (.slice (some ⟨g, 0, none⟩) (a ++ [(xl, xh)]).length c3) (a ++ [(xl, xh)]) := by have := HR5.out; rw [HLN.out, ← HM.out]; exact this
    have HR9 := Yh hR9; clear hR9
    have wx : IntKind.i64.wrap (xh + 1) = xh + 1 := IntWalk.i64_in _ Yo
    by_cases q2 : xh + 1 = lo
    ·have HQ2 := Yh q2
     have g5 : decide (xh + 1 = lo) = true := decide_eq_true q2
     have g5b : ((xh + 1) == lo) = true := by simpa using q2
     clear q2
     have had : leastP n (ps.take (k + 1)) = a ++ [(xl, hi)] := by rw [HSN.out, HST2.out, if_pos ⟨by simp, HQ2.out⟩]
     have HAD := Yh had; clear had
     have hfz := hgf (q * 2 + 1)
     go_wp2_with fail
     go_quiet (fail)
     have hs9 := World.ownsRow.stored (RowS.drewN HR9.out nq) (q * 2 + 1) (.int .i64 hi)
     have HS9 := Yh hs9; clear hs9
     go_wp2
     go_roundg (ps.length - (k + 1))
     case measure => omega
     case rel =>
      refine ⟨k + 1, Yo, Yo, by go_num, ?_, bl1⟩
      rw [HAD.out]
      have h1 := HS9.out.1
      unfold RowS
      have e1 : (a ++ [(xl, hi)]).length = (a ++ [(xl, xh)]).length := by simp
      rw [e1, ← cellsS_last a xl xh hi, ← HM.out]
      have e2 := HLN.out
      rw [e2, ← HM.out] at h1
      rw [e2, ← HM.out]
      exact h1
    ·have g5 : decide (xh + 1 = lo) = false := decide_eq_false q2
     have g5b : ((xh + 1) == lo) = false := by simpa using q2
     have had : leastP n (ps.take (k + 1)) = (a ++ [(xl, xh)]) ++ [(lo, hi)] := by rw [HSN.out, HST2.out, if_neg (fun h => q2 h.2)]
     have HAD := Yh had; clear had
     go_wp2_with fail
     go_quiet (fail)
     go_wp2_with (at_builtin; refine wpList_append_lies _ rfl _ _ 91 rfl w.heap.size 40 i0 (.agg #[.int .i64 0, .int .i64 0]) 2 16 Tryz.underlying91 hif hz0 hz1 hz2 rfl Yd _ (a ++ [(xl, xh)]).length (cellsS (a ++ [(xl, xh)])) (by rw [HLN.out, HM.out]; rfl) (RowS.alloc (RowS.drewN HR9.out nq) _) ⟨w5.heap.size, 0, none⟩ 1 1 [.int .i64 lo, .int .i64 hi] rfl rfl (World.news_of_block (t := 40) (fr := (0, 0)) (Blk.new _ _ _)) ?c2 Yd ?c3 ?c4 ?c5 _ rfl ?_)
     case c2 => first | exact ⟨rfl, rfl⟩ | exact ⟨rfl, rfl, trivial⟩ | (intro u hu; simp at hu; rcases hu with rfl | rfl <;> rfl)
     case c3 => rw [HLN.out, ← HM.out]; unfold maxLen; omega
     case c4 => rw [HLN.out, ← HM.out]; first | omega | (simp; omega)
     case c5 => first | omega | (simp; omega)
     intro g9 cp9 w9 hown hgrow hlie hglt
     have K9 : Below w.heap.size w w9 := ((below_drewN K5 nq).alloc (by show w.heap.size ≤ w5.heap.size; omega) _).grown hgrow (by simp; omega) (fun k hk => (RowS.lt HR9.out k hk).1)
     have hrow9 : RowS w9 w.heap.size (.slice (some ⟨g9, 0, none⟩) (a.length + 1 + 1) cp9) ((a ++ [(xl, xh)]) ++ [(lo, hi)]) := by
      unfold RowS
      rw [show ((a ++ [(xl, xh)]) ++ [((lo, hi) : Int × Int)]).length = a.length + 1 + 1 from by simp, cellsS_snoc (a ++ [(xl, xh)])]; exact hown
     clear hown hgrow hlie hglt
     have R9 := Yh hrow9; clear hrow9
     go_wp2
     go_roundg (ps.length - (k + 1))
     case measure => omega
     case rel => exact ⟨k + 1, Yo, Yo, by go_num, by rw [HAD.out]; exact R9.out, K9⟩
  ·obtain rfl : ps.length = k := by omega
   have gk : decide ((ps.length : Int) < (ps.length : Int)) = false := Y3
   have ht : ps.take ps.length = ps := List.take_of_length_le (Nat.le_refl _)
   have hol := leastP_length n ps
   rw [ht] at HROW
   obtain ⟨A9, c9, rfl⟩ := RowS.len HROW.out
   have hpc := spans_of_row HROW.out Yo
   have HPC := Yh hpc; clear hpc ht
   go_wp2
   go_ret
   exact ⟨A9, c9, rfl, HPC.out, bl1⟩
theorem PX_cases {zs : List (Int × Int)} {ps : List Pc} (h : PX zs ps) : (ckE zs ≠ 0 ∧ ps = []) ∨ (ckE zs = 0 ∧ zs.length ≤ 64 ∧ PCan ps ∧ (∀ p ∈ ps, vS p.lo p.hi = true) ∧ (∀ p ∈ ps, 1 ≤ p.n ∧ p.n ≤ 64) ∧ ps.length ≤ 128) := by
 rcases h with h | ⟨h, h1, h2, h3⟩
 ·exact .inl h
 ·exact .inr ⟨h, (ckE_ok h).1, h1, pc_in h1 h2, pc_num h1 h2 (ckE_ok h).1, h3⟩
def RPf (A : Option Addr) (len cap : Nat) (zs : List (Int × Int)) (w : World) : Prop := ∀ W, Below w.heap.size w W → Calls Tryz.prog 237 #[.slice A len cap] W (PfR W zs)
theorem rLeast_of (A : Option Addr) (len cap : Nat) (zs : List (Int × Int)) (n : Int) (w : World) (HP : RPf A len cap zs w) :
  Calls Tryz.prog 221 #[.slice A len cap, .int .i64 n] w (LsR w zs n) := by
 have HPF := Yh HP; clear HP
 go_enter Tryz.func221, Tryz.ntmps221
 go_wp2_with fail
 refine (HPF.out _ bl0).mono ?_
 rintro e w1 ⟨A1, c1, ps, rfl, hpp, hpx, hb1⟩
 have K1 : Below w.heap.size w w1 := Yc hb1 bl0
 have Z1 := K1.size
 clear hb1
 have HPP := Yh hpp; have HPX := Yh hpx; clear hpp
 rcases PX_cases hpx with ⟨hc0, rfl⟩ | ⟨hc0, h64, hcan, hpv, hpn, h128⟩
 ·have HB := Yh hc0
  have HCI := ckE_in zs
  obtain ⟨c, hc⟩ : ∃ c, ckE zs = c := ⟨_, rfl⟩
  rw [hc] at hc0 HCI ⊢
  have g0 : decide (c = 0) = false := decide_eq_false hc0
  have g0b : (c == 0) = false := by simpa using hc0
  have g0c : (c != 0) = true := by simpa using hc0
  have HCC := Yh hc; clear hc hc0 hpx
  go_wp2
  go_ret2
  exact ⟨none, 0, [], by rw [lE_bad HB.out, HCC.out]; rfl, sp_nil, .inl ⟨by rw [lE_bad HB.out]; exact HB.out, rfl⟩, bl1⟩
 ·rw [hc0]
  have HC0 := Yh hc0; clear hc0 hpx
  by_cases hn : n < 1
  ·have gn : decide (n < 1) = true := decide_eq_true hn
   clear hcan hpv hpn
   go_wp2
   go_ret2
   exact ⟨none, 0, [], by rw [lE_low HC0.out hn]; rfl, sp_nil, .inl ⟨by rw [lE_low HC0.out hn]; decide, rfl⟩, bl1⟩
  ·have gn : decide (n < 1) = false := decide_eq_false hn
   have HL := Yh (fun W (hW : Below w1.heap.size w1 W) => rleastp_any A1 ps.length c1 ps n Yo hcan hpv h128 W (HPP.out.below hW))
   clear hcan hpv hpn
   go_wp2_with fail
   refine (HL.out _ bl0).mono ?_
   rintro e w2 ⟨A2, c2, rfl, hqq, hb2⟩
   have K2 : Below w.heap.size w w2 := Yc hb2 bl1
   have Z2 := K2.size
   clear hb2 K1
   have HQQ := Yh hqq; clear hqq
   go_wp2
   go_ret2
   exact ⟨A2, c2, _, by rw [lE_ok HC0.out Yo]; rfl, HQQ.out, .inr ⟨lE_ok HC0.out Yo, HC0.out, Yo, ps, HPX.out, rfl⟩, bl1⟩
end Go.Proofs.YtiinmhfolfgobaaGreatDoor
