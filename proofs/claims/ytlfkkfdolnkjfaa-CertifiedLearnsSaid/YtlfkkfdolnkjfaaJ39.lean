/- Texts joined: Mg, MergeP -/
import Derived.Test.YtlfkkfdolnkjfaaC37
import Derived.Test.YtlfkkfdolnkjfaaLaw34S
import Derived.Test.YtlfkkfdolnkjfaaQr
import Derived.Test.YtlfkkfdolnkjfaaR37
import Derived.Test.YtlfkkfdolnkjfaaEl
namespace Go.Proofs.Ytlfkkfdolnkjfaa
open Go.RowKit Go.Shelf Go.Sort
set_option linter.unusedSimpArgs false
set_option linter.unusedVariables false

structure K6 where
  (at_ lo hi pp le re : Int)
def K6.cs (k : K6) : List Value := [.int .i64 k.at_, .int .i64 k.lo, .int .i64 k.hi, .int .i64 k.pp, .int .i64 k.le, .int .i64 k.re]
def K6.zero : K6 := ⟨0, 0, 0, 0, 0, 0⟩
/-- What several know, in memory. -/
def KnAt (w : World) (A : Option Addr) (len : Nat) (ks : List K6) : Prop := ks.length = len ∧ len ≤ 9223372036854775807 ∧ (0 < len → ∃ b off, A = some ⟨b, off, none⟩ ∧ b < w.heap.size ∧ ∀ j, j < len → w.cell? ⟨b, off + j * 6, none⟩ = some (.int .i64 (ks.getD j .zero).at_) ∧ w.cell? ⟨b, off + j * 6 + 1, none⟩ = some (.int .i64 (ks.getD j .zero).lo) ∧ w.cell? ⟨b, off + j * 6 + 2, none⟩ = some (.int .i64 (ks.getD j .zero).hi) ∧ w.cell? ⟨b, off + j * 6 + 3, none⟩ = some (.int .i64 (ks.getD j .zero).pp) ∧ w.cell? ⟨b, off + j * 6 + 4, none⟩ = some (.int .i64 (ks.getD j .zero).le) ∧ w.cell? ⟨b, off + j * 6 + 5, none⟩ = some (.int .i64 (ks.getD j .zero).re))
theorem KnAt.below {w w' : World} {A : Option Addr} {len : Nat} {ks : List K6} (h : KnAt w A len ks) (hb : Below w.heap.size w w') : KnAt w' A len ks := by
  obtain ⟨h1, h2, h3⟩ := h
  refine ⟨h1, h2, fun hl => ?_⟩
  obtain ⟨b, off, e, hlt, hc⟩ := h3 hl
  exact ⟨b, off, e, Nat.lt_of_lt_of_le hlt hb.size, fun j hj => ⟨cell_below hb (hc j hj).1, cell_below hb (hc j hj).2.1, cell_below hb (hc j hj).2.2.1, cell_below hb (hc j hj).2.2.2.1, cell_below hb (hc j hj).2.2.2.2.1, cell_below hb (hc j hj).2.2.2.2.2⟩⟩
def nowK (u : Int) (k : K6) : Int × Int × Int := nowT k.at_ k.lo k.hi k.pp k.le k.re u
def spK (u : Int) (k : K6) : Int × Int := ((nowK u k).1, (nowK u k).2.1)
/-- What Merge gives. -/
def MG (ks : List K6) (u f x y er : Int) : Prop := (64 < ks.length ∧ x = 0 ∧ y = 0 ∧ er = 8) ∨ (ks.length ≤ 64 ∧ ∃ i, i < ks.length ∧ (∀ j, j < i → (nowK u (ks.getD j .zero)).2.2 = 0) ∧ (nowK u (ks.getD i .zero)).2.2 ≠ 0 ∧ x = 0 ∧ y = 0 ∧ er = (nowK u (ks.getD i .zero)).2.2) ∨ (ks.length ≤ 64 ∧ (∀ j, j < ks.length → (nowK u (ks.getD j .zero)).2.2 = 0) ∧ AX (ks.map (spK u)) f x y er)
theorem MG_uniq {ks : List K6} {u f x y er x' y' er' : Int} (h : MG ks u f x y er) (k : MG ks u f x' y' er') : x = x' ∧ y = y' ∧ er = er' := by
  rcases h with ⟨h0, h1, h2, h3⟩ | ⟨h0, i, hi, h1, h2, h3, h4, h5⟩ | ⟨h0, h1, h2⟩
  · rcases k with ⟨k0, k1, k2, k3⟩ | ⟨k0, -⟩ | ⟨k0, -⟩
    · exact ⟨h1.trans k1.symm, h2.trans k2.symm, h3.trans k3.symm⟩
    · omega
    · omega
  · rcases k with ⟨k0, -⟩ | ⟨k0, j, hj, k1, k2, k3, k4, k5⟩ | ⟨k0, k1, k2⟩
    · omega
    · have : i = j := by
        rcases Nat.lt_trichotomy i j with c | c | c
        · exact absurd (k1 i c) h2
        · exact c
        · exact absurd (h1 j c) k2
      subst this
      exact ⟨h3.trans k3.symm, h4.trans k4.symm, h5.trans k5.symm⟩
    · exact absurd (k1 i hi) h2
  · rcases k with ⟨k0, -⟩ | ⟨k0, j, hj, k1, k2, k3, k4, k5⟩ | ⟨k0, k1, k2⟩
    · omega
    · exact absurd (h1 j hj) k2
    · exact AX_uniq h2 k2
def MgR (w : World) (ks : List K6) (u f : Int) (e : Ending) (w' : World) : Prop := ∃ x y er : Int, e = .returned (.tuple #[.agg #[.int .i64 x, .int .i64 y], .int .i64 er]) ∧ MG ks u f x y er ∧ Below w.heap.size w w'
def MgRel (w : World) (ks : List K6) (u : Int) (G : Nat) (v i : Value) (wr : World) : Prop := ∃ (q : Nat) (A : Option Addr) (c : Nat) (zs : List (Int × Int)), q ≤ ks.length ∧ G = ks.length - q ∧ i = .int .i64 q ∧ v = .slice A zs.length c ∧ zs.length = q ∧ zs = (ks.take q).map (spK u) ∧ RowS wr (w.heap.size + 1) (.slice A zs.length c) zs ∧ (∀ j, j < q → (nowK u (ks.getD j .zero)).2.2 = 0) ∧ Blk wr w.heap.size 35 #[.int .i64 0, .int .i64 0] ∧ Below w.heap.size w wr
theorem take_nextK (ks : List K6) (p : Nat) (h : p < ks.length) : ks.take (p + 1) = ks.take p ++ [ks.getD p .zero] := by
  rw [List.take_add_one, List.getElem?_eq_getElem h, List.getD_eq_getElem?_getD, List.getElem?_eq_getElem h]; rfl
theorem setAll_below {b g : Nat} {W : World} (hg : b ≤ g) : ∀ (l : List Value) (i : Nat) (w : World), Below b W w → Below b W (setAll w g i l)
  | [], _, _, h => h
  | _ :: l, i, w, h => setAll_below hg l (i + 1) _ (h.setCell hg _)
set_option maxRecDepth 100000 in
set_option maxHeartbeats 1000000 in
theorem imerge_any (A : Option Addr) (len cap : Nat) (ks : List K6) (u f : Int) (w : World) (h : KnAt w A len ks) :
    Calls Try.prog 45 #[.slice A len cap, .int .i64 u, .int .i64 f] w (MgR w ks u f) := by
  have HK := Lib.hid (show Kp w w from Below.refl _ _)
  have HL := Lib.hid (h)
  have HLw0 := Lib.hid h
  obtain rfl := h.1
  have hlm := h.2.1
  clear h
  by_cases h64 : 64 < ks.length
  · have g0 : decide (64 < (ks.length : Int)) = true := decide_eq_true (by omega)
    have g0n : decide (64 < ks.length) = true := decide_eq_true h64
    go_enter Try.func45, Try.ntmps45
    go_wp2
    exact bodyPost_ret (v := .tuple #[.agg #[.int .i64 0, .int .i64 0], .int .i64 8]) (by simp [results, Try.results45, go_sem, *]) rfl ⟨0, 0, 8, rfl, .inl ⟨h64, rfl, rfl, rfl⟩, HK.out.below (by (repeat' (first | (with_reducible exact Below.refl _ _) | (with_reducible refine Below.setCell ?_ ?_ _) | (with_reducible refine Below.alloc ?_ ?_ _) | (with_reducible refine Below.drew ?_) | (with_reducible refine below_drewN ?_ _))) <;> (first | omega | (simp <;> omega)))⟩
  have g0 : decide (64 < (ks.length : Int)) = false := decide_eq_false (by omega)
  have g0n : decide (64 < ks.length) = false := decide_eq_false h64
  go_enter Try.func45, Try.ntmps45
  go_wp2
  have HR := Lib.hid (show Blk (w.alloc (.cells #[.int .i64 0, .int .i64 0] 35)) w.heap.size 35 #[.int .i64 0, .int .i64 0] from Blk.new _ _ _)
  obtain ⟨W1, eW1⟩ : ∃ W1, W1 = w.alloc (.cells #[.int .i64 0, .int .i64 0] 35) := ⟨_, rfl⟩
  have SW1 : Below w.heap.size w W1 := by rw [eW1]; exact (Below.refl _ _).alloc (Nat.le_refl _) _
  have ZW1 := SW1.size
  replace HK := Lib.hid (HK.out.below SW1)
  replace HL := Lib.hid (HL.out.below SW1)
  clear SW1
  rw [← eW1] at HR
  have l1 : w.heap.size < W1.heap.size := by rw [eW1]; simp
  have l1e : W1.heap.size = w.heap.size + 1 := by rw [eW1]; simp
  have HL1e := Lib.hid l1e; clear l1e
  try rw [← eW1]
  go_loopg [8, 19] ks.length (fun G v i wr => MgRel w ks u G v i wr)
  case atStart => exact ⟨0, none, 0, [], by omega, by omega, rfl, rfl, rfl, rfl, RowS.nil, fun j hj => by omega, by first | exact HR.out | (rw [eW1]; exact Blk.new _ _ _), by first | exact HK.out.b | (rw [eW1]; exact (Below.refl _ _).alloc (Nat.le_refl _) _)⟩
  case round =>
    obtain ⟨q, A1, c1, zs, hq, rfl, rfl, rfl, hzl, hzs, hrow, hok, hR, KR⟩ := hrel
    have ZR := KR.size
    have HLw := Lib.hid (show KnAt wr A ks.length ks from HLw0.out.below KR)
    clear HK HL HR
    have HK := Lib.hid (show Kp w wr from KR); have HR := Lib.hid hR; have HO := Lib.hid hrow; have HZS := Lib.hid hzs; have HOK := Lib.hid hok
    have hlr : w.heap.size < wr.heap.size := hR.lt
    have hrl := RowS.lt hrow
    have hz64 : zs.length ≤ 64 := by omega
    have HZL := Lib.hid hzl; clear hzl
    clear hR hrow hzs hok KR
    by_cases hlt : q < ks.length
    · have gq : decide ((q : Int) < (ks.length : Int)) = true := decide_eq_true (by omega)
      have gqn : decide (q < ks.length) = true := decide_eq_true hlt
      have wq : IntKind.i64.wrap ((q : Int) + 1) = ((q + 1 : Nat) : Int) := by rw [IntWalk.i64_in _ (by omega)]; omega
      obtain ⟨bl, off, rfl, hbl, hcs⟩ := HLw.out.2.2 (by omega)
      obtain ⟨e0, e1, e2, e3, e4, e5⟩ := hcs q hlt
      clear hcs HLw
      have hst : (ks.take (q + 1)).map (spK u) = zs ++ [spK u (ks.getD q .zero)] := by rw [take_nextK ks q hlt, List.map_append, ← HZS.out]; rfl
      obtain ⟨k, hk⟩ : ∃ k, ks.getD q .zero = k := ⟨_, rfl⟩
      rw [hk] at e0 e1 e2 e3 e4 e5 hst
      have HKK := Lib.hid hk; clear hk
      obtain ⟨ka, klo, khi, kp, kle, kre⟩ := k
      dsimp only at e0 e1 e2 e3 e4 e5
      obtain ⟨x, y, er, hnow⟩ : ∃ x y er, nowK u ⟨ka, klo, khi, kp, kle, kre⟩ = (x, y, er) := ⟨_, _, _, rfl⟩
      have hsp : spK u ⟨ka, klo, khi, kp, kle, kre⟩ = (x, y) := by unfold spK; rw [hnow]
      rw [hsp] at hst
      have RN := Lib.hid (fun W => (show Calls _ _ _ _ (RB W (.tuple #[.agg #[.int .i64 x, .int .i64 y], .int .i64 er])) from (congrArg V3 (show nowT ka klo khi kp kle kre u = (x, y, er) from hnow)) ▸ inow_any ka klo khi kp kle kre u W))
      have hk2 : (nowK u (ks.getD q .zero)).2.2 = er := by rw [HKK.out, hnow]
      have HST := Lib.hid hst; have HK2 := Lib.hid hk2; clear hst hk2 hnow hsp
      go_upto_region 6 with fail
      go_cut [10] (fun v wx => v = .pointer (some ⟨wr.heap.size, 0, none⟩) ∧ Blk wx wr.heap.size 72 #[.int .i64 ka, .int .i64 klo, .int .i64 khi, .int .i64 kp, .int .i64 kle, .int .i64 kre] ∧ Below wr.heap.size wr wx)
      case first =>
        go_wp2_with fail
        go_meet
        exact ⟨rfl, (by (repeat' (first | ((with_reducible refine' Blk.newE ?_); first | rfl | (simp; done)) | (with_reducible refine' Blk.alloc ?_ _) | (with_reducible refine' Blk.drew ?_) | (with_reducible refine' Blk.drewN ?_ _) | (with_reducible refine' Blk.put ?_ ?_) | (with_reducible refine' Blk.far ?_ ?_ _) | exact rfl)) <;> (first | omega | (simp <;> omega))), (by (repeat' (first | (with_reducible exact Below.refl _ _) | (with_reducible refine Below.setCell ?_ ?_ _) | (with_reducible refine Below.alloc ?_ ?_ _) | (with_reducible refine Below.drew ?_) | (with_reducible refine below_drewN ?_ _))) <;> (first | omega | (simp <;> omega)))⟩
      case rest =>
        obtain ⟨rfl, bk, KC⟩ := hcut
        have ZC := KC.size
        replace HK := Lib.hid (HK.out.below KC)
        replace HR := Lib.hid (HR.out.below KC)
        replace HO := Lib.hid (HO.out.below KC)
        have lk := bk.lt
        have ck := bk.cell
        clear e0 e1 e2 e3 e4 e5 KC
        go_wp2_with fail
        refine (RN.out _).mono ?_
        rintro e w2 ⟨rfl, hb2⟩
        have S2 : Below wc.heap.size wc w2 := kept_call hb2 (by (repeat' (first | (with_reducible exact Below.refl _ _) | (with_reducible refine Below.setCell ?_ ?_ _) | (with_reducible refine Below.alloc ?_ ?_ _) | (with_reducible refine Below.drew ?_) | (with_reducible refine below_drewN ?_ _))) <;> (first | omega | (simp <;> omega)))
        have Z2 := S2.size
        replace HK := Lib.hid (HK.out.below S2)
        replace HR := Lib.hid (HR.out.below S2)
        replace HO := Lib.hid (HO.out.below S2)
        clear hb2 S2
        clear bk ck lk
        by_cases her : er = 0
        · subst her
          obtain ⟨i0, hif, hz0, hz1, hz2⟩ := info_parts infoSpan
          have hXl : ∀ kk, (Value.slice A1 zs.length c1).ownBlock = some kk → w.heap.size + 1 ≤ kk ∧ kk < wr.heap.size := hrl
          generalize hX : (Value.slice A1 zs.length c1).ownBlock = X at hXl
          go_wp2_with (at_builtin; refine wpList_append_lies _ rfl _ _ 43 rfl (w.heap.size + 1) 35 i0 (.agg #[.int .i64 0, .int .i64 0]) 2 16 Try.underlying43 hif hz0 hz1 hz2 rfl (by decide) _ zs.length (cellsS zs) rfl (RowS.below HO.out (by (repeat' (first | (with_reducible exact Below.refl _ _) | (with_reducible refine Below.setCell ?_ ?_ _) | (with_reducible refine Below.alloc ?_ ?_ _) | (with_reducible refine Below.drew ?_) | (with_reducible refine below_drewN ?_ _))) <;> (first | omega | (simp <;> omega)))) ⟨_, 0, none⟩ 1 1 [.int .i64 x, .int .i64 y] rfl rfl (World.news_of_block (t := 35) (fr := (0, 0)) (Blk.new1 _ _ _ _)) ?c2 (by decide) ?c3 ?c4 ?c5 _ rfl ?_)
          case c2 => first | exact ⟨rfl, rfl⟩ | (intro u hu; simp at hu; rcases hu with rfl | rfl <;> rfl)
          case c3 => unfold maxLen; omega
          case c4 => omega
          case c5 => first | omega | (simp; omega)
          intro g9 cp9 w7 hown hgrow hlie hglt
          (try rw [hX] at hgrow)
          skip
          have K7 : Below w.heap.size w w7 := (show Below w.heap.size w _ from HK.out.below (by (repeat' (first | (with_reducible exact Below.refl _ _) | (with_reducible refine Below.setCell ?_ ?_ _) | (with_reducible refine Below.alloc ?_ ?_ _) | (with_reducible refine Below.drew ?_) | (with_reducible refine below_drewN ?_ _))) <;> (first | omega | (simp <;> omega)))).grown hgrow (by first | omega | (simp; omega)) (fun k hk => by have := hXl k hk; omega)
          have hR7 : Blk w7 w.heap.size 35 #[.int .i64 0, .int .i64 0] := (hgrow.block w.heap.size (by first | omega | (simp; omega)) (fun e => by have := hXl _ e.symm; omega)).trans (HR.out.below (by (repeat' (first | (with_reducible exact Below.refl _ _) | (with_reducible refine Below.setCell ?_ ?_ _) | (with_reducible refine Below.alloc ?_ ?_ _) | (with_reducible refine Below.drew ?_) | (with_reducible refine below_drewN ?_ _))) <;> (first | omega | (simp <;> omega))))
          have hL7 : RowS w7 (w.heap.size + 1) (.slice (some ⟨g9, 0, none⟩) (zs ++ [(x, y)]).length cp9) (zs ++ [(x, y)]) := by
            unfold RowS
            rw [List.length_append, List.length_singleton, cellsS_snoc]; exact hown
          have H7 := Lib.hid (And.intro K7 (And.intro hR7 hL7))
          clear hown hgrow hlie hglt K7 hR7 hL7
          go_wp2
          go_roundg (ks.length - (q + 1))
          case measure => omega
          case rel => exact ⟨q + 1, _, _, zs ++ [(x, y)], by omega, by omega, by go_num, by simp, by simp [HZL.out], by rw [HST.out], H7.out.2.2, fun j hj => by by_cases e9 : j = q; (subst e9; exact HK2.out); (exact HOK.out j (by omega)), H7.out.2.1, H7.out.1⟩
        · have g1 : decide (er = 0) = false := decide_eq_false her
          have g1b : (er == 0) = false := by rw [beq_eq_false_iff_ne]; exact her
          have hr := HR.out
          obtain ⟨cr, fr, lr, le, lk2⟩ := Blk.facts hr
          go_wp2
          skip
          exact bodyPost_ret (v := .tuple #[.agg #[.int .i64 0, .int .i64 0], .int .i64 er]) (by simp [results, Try.results45, go_sem, *]) rfl ⟨0, 0, er, rfl, .inr (.inl ⟨by omega, q, hlt, HOK.out, by rw [HK2.out]; exact her, rfl, rfl, HK2.out.symm⟩), (by (repeat' (first | (with_reducible exact HK.out.b) | (with_reducible refine Below.setCell ?_ ?_ _) | (with_reducible refine Below.alloc ?_ ?_ _) | (with_reducible refine Below.drew ?_) | (with_reducible refine below_drewN ?_ _))) <;> (first | omega | (simp <;> omega)))⟩
    · obtain rfl : q = ks.length := by omega
      have gq : decide ((ks.length : Int) < (ks.length : Int)) = false := decide_eq_false (by omega)
      rw [List.take_length] at HZS
      have HSP := Lib.hid (spans_of_row HO.out (by omega))
      have HMG := Lib.hid (fun x y er (h : AX (ks.map (spK u)) f x y er) => (show MG ks u f x y er from .inr (.inr ⟨by omega, HOK.out, h⟩)))
      clear HLw HO HOK
      go_wp2_with fail
      refine (qAgree_any A1 zs.length c1 zs f _ (HSP.out.below (by (repeat' (first | (with_reducible exact Below.refl _ _) | (with_reducible refine Below.setCell ?_ ?_ _) | (with_reducible refine Below.alloc ?_ ?_ _) | (with_reducible refine Below.drew ?_) | (with_reducible refine below_drewN ?_ _))) <;> (first | omega | (simp <;> omega))))).mono ?_
      rintro e w31 ⟨x, y, er, rfl, hax, hb31⟩
      have S31 : Below wr.heap.size wr w31 := kept_call hb31 (by (repeat' (first | (with_reducible exact Below.refl _ _) | (with_reducible refine Below.setCell ?_ ?_ _) | (with_reducible refine Below.alloc ?_ ?_ _) | (with_reducible refine Below.drew ?_) | (with_reducible refine below_drewN ?_ _))) <;> (first | omega | (simp <;> omega)))
      have Z31 := S31.size
      replace HK := Lib.hid (HK.out.below S31)
      replace HR := Lib.hid (HR.out.below S31)
      replace HSP := Lib.hid (HSP.out.below S31)
      clear hb31 S31
      rw [HZS.out] at hax
      have HAX := Lib.hid hax
      have hr := HR.out
      obtain ⟨cr, fr, lr, le, lk2⟩ := Blk.facts hr
      clear hax HZS
      go_wp2
      exact bodyPost_ret (v := .tuple #[.agg #[.int .i64 x, .int .i64 y], .int .i64 er]) (by simp [results, Try.results45, go_sem, *]) rfl ⟨x, y, er, rfl, HMG.out _ _ _ HAX.out, (by (repeat' (first | (with_reducible exact HK.out.b) | (with_reducible refine Below.setCell ?_ ?_ _) | (with_reducible refine Below.alloc ?_ ?_ _) | (with_reducible refine Below.drew ?_) | (with_reducible refine below_drewN ?_ _))) <;> (first | omega | (simp <;> omega)))⟩
set_option maxRecDepth 100000 in
set_option maxHeartbeats 1000000 in
theorem rmerge_any (A : Option Addr) (len cap : Nat) (ks : List K6) (u f : Int) (w : World) (h : KnAt w A len ks) :
    Calls Try.prog 46 #[.slice A len cap, .int .i64 u, .int .i64 f] w (MgR w ks u f) := by
  have HK := Lib.hid (show Kp w w from Below.refl _ _)
  have HL := Lib.hid (h)
  have HLw0 := Lib.hid h
  obtain rfl := h.1
  have hlm := h.2.1
  clear h
  by_cases h64 : 64 < ks.length
  · have g0 : decide (64 < (ks.length : Int)) = true := decide_eq_true (by omega)
    have g0n : decide (64 < ks.length) = true := decide_eq_true h64
    go_enter Try.func46, Try.ntmps46
    go_wp2
    exact bodyPost_ret (v := .tuple #[.agg #[.int .i64 0, .int .i64 0], .int .i64 8]) (by simp [results, Try.results46, go_sem, *]) rfl ⟨0, 0, 8, rfl, .inl ⟨h64, rfl, rfl, rfl⟩, HK.out.below (by (repeat' (first | (with_reducible exact Below.refl _ _) | (with_reducible refine Below.setCell ?_ ?_ _) | (with_reducible refine Below.alloc ?_ ?_ _) | (with_reducible refine Below.drew ?_) | (with_reducible refine below_drewN ?_ _))) <;> (first | omega | (simp <;> omega)))⟩
  have g0 : decide (64 < (ks.length : Int)) = false := decide_eq_false (by omega)
  have g0n : decide (64 < ks.length) = false := decide_eq_false h64
  go_enter Try.func46, Try.ntmps46
  go_wp2
  have HR := Lib.hid (show Blk (w.alloc (.cells #[.int .i64 0, .int .i64 0] 35)) w.heap.size 35 #[.int .i64 0, .int .i64 0] from Blk.new _ _ _)
  obtain ⟨W1, eW1⟩ : ∃ W1, W1 = w.alloc (.cells #[.int .i64 0, .int .i64 0] 35) := ⟨_, rfl⟩
  have SW1 : Below w.heap.size w W1 := by rw [eW1]; exact (Below.refl _ _).alloc (Nat.le_refl _) _
  have ZW1 := SW1.size
  replace HK := Lib.hid (HK.out.below SW1)
  replace HL := Lib.hid (HL.out.below SW1)
  clear SW1
  rw [← eW1] at HR
  have l1 : w.heap.size < W1.heap.size := by rw [eW1]; simp
  have l1e : W1.heap.size = w.heap.size + 1 := by rw [eW1]; simp
  have HL1e := Lib.hid l1e; clear l1e
  try rw [← eW1]
  go_loopg [8, 9] ks.length (fun G v i wr => MgRel w ks u G v i wr)
  case atStart => exact ⟨0, none, 0, [], by omega, by omega, rfl, rfl, rfl, rfl, RowS.nil, fun j hj => by omega, by first | exact HR.out | (rw [eW1]; exact Blk.new _ _ _), by first | exact HK.out.b | (rw [eW1]; exact (Below.refl _ _).alloc (Nat.le_refl _) _)⟩
  case round =>
    obtain ⟨q, A1, c1, zs, hq, rfl, rfl, rfl, hzl, hzs, hrow, hok, hR, KR⟩ := hrel
    have ZR := KR.size
    have HLw := Lib.hid (show KnAt wr A ks.length ks from HLw0.out.below KR)
    clear HK HL HR
    have HK := Lib.hid (show Kp w wr from KR); have HR := Lib.hid hR; have HO := Lib.hid hrow; have HZS := Lib.hid hzs; have HOK := Lib.hid hok
    have hlr : w.heap.size < wr.heap.size := hR.lt
    have hrl := RowS.lt hrow
    have hz64 : zs.length ≤ 64 := by omega
    have HZL := Lib.hid hzl; clear hzl
    clear hR hrow hzs hok KR
    by_cases hlt : q < ks.length
    · have gq : decide ((q : Int) < (ks.length : Int)) = true := decide_eq_true (by omega)
      have gqn : decide (q < ks.length) = true := decide_eq_true hlt
      have wq : IntKind.i64.wrap ((q : Int) + 1) = ((q + 1 : Nat) : Int) := by rw [IntWalk.i64_in _ (by omega)]; omega
      obtain ⟨bl, off, rfl, hbl, hcs⟩ := HLw.out.2.2 (by omega)
      obtain ⟨e0, e1, e2, e3, e4, e5⟩ := hcs q hlt
      clear hcs HLw
      have hst : (ks.take (q + 1)).map (spK u) = zs ++ [spK u (ks.getD q .zero)] := by rw [take_nextK ks q hlt, List.map_append, ← HZS.out]; rfl
      obtain ⟨k, hk⟩ : ∃ k, ks.getD q .zero = k := ⟨_, rfl⟩
      rw [hk] at e0 e1 e2 e3 e4 e5 hst
      have HKK := Lib.hid hk; clear hk
      obtain ⟨ka, klo, khi, kp, kle, kre⟩ := k
      dsimp only at e0 e1 e2 e3 e4 e5
      obtain ⟨x, y, er, hnow⟩ : ∃ x y er, nowK u ⟨ka, klo, khi, kp, kle, kre⟩ = (x, y, er) := ⟨_, _, _, rfl⟩
      have hsp : spK u ⟨ka, klo, khi, kp, kle, kre⟩ = (x, y) := by unfold spK; rw [hnow]
      rw [hsp] at hst
      have RN := Lib.hid (fun W => (show Calls _ _ _ _ (RB W (.tuple #[.agg #[.int .i64 x, .int .i64 y], .int .i64 er])) from (congrArg V3 (show nowT ka klo khi kp kle kre u = (x, y, er) from hnow)) ▸ rnow_any ka klo khi kp kle kre u W))
      have hk2 : (nowK u (ks.getD q .zero)).2.2 = er := by rw [HKK.out, hnow]
      have HST := Lib.hid hst; have HK2 := Lib.hid hk2; clear hst hk2 hnow hsp
      go_wp2_with fail
      refine (RN.out _).mono ?_
      rintro e w2 ⟨rfl, hb2⟩
      have S2 : Below wr.heap.size wr w2 := kept_call hb2 (by (repeat' (first | (with_reducible exact Below.refl _ _) | (with_reducible refine Below.setCell ?_ ?_ _) | (with_reducible refine Below.alloc ?_ ?_ _) | (with_reducible refine Below.drew ?_) | (with_reducible refine below_drewN ?_ _))) <;> (first | omega | (simp <;> omega)))
      have Z2 := S2.size
      replace HK := Lib.hid (HK.out.below S2)
      replace HR := Lib.hid (HR.out.below S2)
      replace HO := Lib.hid (HO.out.below S2)
      clear hb2 S2
      clear e0 e1 e2 e3 e4 e5
      by_cases her : er = 0
      · subst her
        obtain ⟨i0, hif, hz0, hz1, hz2⟩ := info_parts infoSpan
        have hXl : ∀ kk, (Value.slice A1 zs.length c1).ownBlock = some kk → w.heap.size + 1 ≤ kk ∧ kk < wr.heap.size := hrl
        generalize hX : (Value.slice A1 zs.length c1).ownBlock = X at hXl
        go_wp2_with (at_builtin; refine wpList_append_lies _ rfl _ _ 43 rfl (w.heap.size + 1) 35 i0 (.agg #[.int .i64 0, .int .i64 0]) 2 16 Try.underlying43 hif hz0 hz1 hz2 rfl (by decide) _ zs.length (cellsS zs) rfl (RowS.below HO.out (by (repeat' (first | (with_reducible exact Below.refl _ _) | (with_reducible refine Below.setCell ?_ ?_ _) | (with_reducible refine Below.alloc ?_ ?_ _) | (with_reducible refine Below.drew ?_) | (with_reducible refine below_drewN ?_ _))) <;> (first | omega | (simp <;> omega)))) ⟨_, 0, none⟩ 1 1 [.int .i64 x, .int .i64 y] rfl rfl (World.news_of_block (t := 35) (fr := (0, 0)) (Blk.new1 _ _ _ _)) (by first | exact ⟨rfl, rfl⟩ | (intro u hu; simp at hu; rcases hu with rfl | rfl <;> rfl)) (by decide) ?c3 ?c4 ?c5 _ rfl ?_)
        skip
        case c3 => unfold maxLen; omega
        case c4 => omega
        case c5 => first | omega | (simp; omega)
        intro g9 cp9 w7 hown hgrow hlie hglt
        (try rw [hX] at hgrow)
        skip
        have K7 : Below w.heap.size w w7 := (show Below w.heap.size w _ from HK.out.below (by (repeat' (first | (with_reducible exact Below.refl _ _) | (with_reducible refine Below.setCell ?_ ?_ _) | (with_reducible refine Below.alloc ?_ ?_ _) | (with_reducible refine Below.drew ?_) | (with_reducible refine below_drewN ?_ _))) <;> (first | omega | (simp <;> omega)))).grown hgrow (by first | omega | (simp; omega)) (fun k hk => by have := hXl k hk; omega)
        have hR7 : Blk w7 w.heap.size 35 #[.int .i64 0, .int .i64 0] := (hgrow.block w.heap.size (by first | omega | (simp; omega)) (fun e => by have := hXl _ e.symm; omega)).trans (HR.out.below (by (repeat' (first | (with_reducible exact Below.refl _ _) | (with_reducible refine Below.setCell ?_ ?_ _) | (with_reducible refine Below.alloc ?_ ?_ _) | (with_reducible refine Below.drew ?_) | (with_reducible refine below_drewN ?_ _))) <;> (first | omega | (simp <;> omega))))
        have hL7 : RowS w7 (w.heap.size + 1) (.slice (some ⟨g9, 0, none⟩) (zs ++ [(x, y)]).length cp9) (zs ++ [(x, y)]) := by
          unfold RowS
          rw [List.length_append, List.length_singleton, cellsS_snoc]; exact hown
        have H7 := Lib.hid (And.intro K7 (And.intro hR7 hL7))
        clear hown hgrow hlie hglt K7 hR7 hL7
        go_wp2
        go_roundg (ks.length - (q + 1))
        case measure => omega
        case rel => exact ⟨q + 1, _, _, zs ++ [(x, y)], by omega, by omega, by go_num, by simp, by simp [HZL.out], by rw [HST.out], H7.out.2.2, fun j hj => by by_cases e9 : j = q; (subst e9; exact HK2.out); (exact HOK.out j (by omega)), H7.out.2.1, H7.out.1⟩
      · have g1 : decide (er = 0) = false := decide_eq_false her
        have g1b : (er == 0) = false := by rw [beq_eq_false_iff_ne]; exact her
        have hr := HR.out
        obtain ⟨cr, fr, lr, le, lk2⟩ := Blk.facts hr
        go_wp2
        skip
        exact bodyPost_ret (v := .tuple #[.agg #[.int .i64 0, .int .i64 0], .int .i64 er]) (by simp [results, Try.results46, go_sem, *]) rfl ⟨0, 0, er, rfl, .inr (.inl ⟨by omega, q, hlt, HOK.out, by rw [HK2.out]; exact her, rfl, rfl, HK2.out.symm⟩), (by (repeat' (first | (with_reducible exact HK.out.b) | (with_reducible refine Below.setCell ?_ ?_ _) | (with_reducible refine Below.alloc ?_ ?_ _) | (with_reducible refine Below.drew ?_) | (with_reducible refine below_drewN ?_ _))) <;> (first | omega | (simp <;> omega)))⟩
    · obtain rfl : q = ks.length := by omega
      have gq : decide ((ks.length : Int) < (ks.length : Int)) = false := decide_eq_false (by omega)
      rw [List.take_length] at HZS
      have HSP := Lib.hid (spans_of_row HO.out (by omega))
      have HMG := Lib.hid (fun x y er (h : AX (ks.map (spK u)) f x y er) => (show MG ks u f x y er from .inr (.inr ⟨by omega, HOK.out, h⟩)))
      clear HLw HO HOK
      go_wp2_with fail
      refine (rAgree_any A1 zs.length c1 zs f _ (HSP.out.below (by (repeat' (first | (with_reducible exact Below.refl _ _) | (with_reducible refine Below.setCell ?_ ?_ _) | (with_reducible refine Below.alloc ?_ ?_ _) | (with_reducible refine Below.drew ?_) | (with_reducible refine below_drewN ?_ _))) <;> (first | omega | (simp <;> omega))))).mono ?_
      rintro e w31 ⟨x, y, er, rfl, hax, hb31⟩
      have S31 : Below wr.heap.size wr w31 := kept_call hb31 (by (repeat' (first | (with_reducible exact Below.refl _ _) | (with_reducible refine Below.setCell ?_ ?_ _) | (with_reducible refine Below.alloc ?_ ?_ _) | (with_reducible refine Below.drew ?_) | (with_reducible refine below_drewN ?_ _))) <;> (first | omega | (simp <;> omega)))
      have Z31 := S31.size
      replace HK := Lib.hid (HK.out.below S31)
      replace HR := Lib.hid (HR.out.below S31)
      replace HSP := Lib.hid (HSP.out.below S31)
      clear hb31 S31
      rw [HZS.out] at hax
      have HAX := Lib.hid hax
      have hr := HR.out
      obtain ⟨cr, fr, lr, le, lk2⟩ := Blk.facts hr
      clear hax HZS
      go_wp2
      exact bodyPost_ret (v := .tuple #[.agg #[.int .i64 x, .int .i64 y], .int .i64 er]) (by simp [results, Try.results46, go_sem, *]) rfl ⟨x, y, er, rfl, HMG.out _ _ _ HAX.out, (by (repeat' (first | (with_reducible exact HK.out.b) | (with_reducible refine Below.setCell ?_ ?_ _) | (with_reducible refine Below.alloc ?_ ?_ _) | (with_reducible refine Below.drew ?_) | (with_reducible refine below_drewN ?_ _))) <;> (first | omega | (simp <;> omega)))⟩
end Go.Proofs.Ytlfkkfdolnkjfaa
namespace Go.Proofs.Ytlfkkfdolnkjfaa
open Go.RowKit Go.Shelf Go.Sort
set_option linter.unusedSimpArgs false
set_option linter.unusedVariables false

theorem Kp.tap {w W W' : World} {b : Nat} (h : Kp w W) (hg : W.grownBy W' (some b)) (hb : w.heap.size ≤ b) : Kp w W' := below_grown h hg hb (Below.size h)
theorem Blk.tap {w w' : World} {g b : Nat} {t : TypeId} {cs : Array Value} (h : Blk w g t cs) (hg : w.grownBy w' (some b)) (hn : g ≠ b) : Blk w' g t cs := Blk.keepG hg h hn
theorem Past.tapg {b : Nat} {w w' : World} (h : Past [b] w w') : w.grownBy w' (some b) := Past.gb0 h (fun k hk => .inl (by simpa using hk))
def kCells (ks : List K6) : List Value := ks.flatMap K6.cs
theorem kCells_length (ks : List K6) : (kCells ks).length = ks.length * 6 := by
  induction ks with
  | nil => rfl
  | cons x xs ih => simp only [kCells, List.flatMap_cons, List.length_append, List.length_cons] at *; rw [ih]; simp [K6.cs]; omega
theorem kCells_snoc (ks : List K6) (x : K6) : kCells (ks ++ [x]) = kCells ks ++ x.cs := by simp [kCells]
theorem kCells_get (ks : List K6) : ∀ (j i : Nat), j < ks.length → i < 6 → (kCells ks)[j * 6 + i]? = (ks.getD j .zero).cs[i]? := by
  induction ks with
  | nil => intro j i h; simp at h
  | cons x xs ih =>
    intro j i hj hi
    have e : kCells (x :: xs) = x.cs ++ kCells xs := rfl
    have hc : x.cs.length = 6 := rfl
    cases j with
    | zero => rw [e, List.getElem?_append_left (by omega)]; simp
    | succ j => rw [e, List.getElem?_append_right (by omega), hc, show (j + 1) * 6 + i - 6 = j * 6 + i by omega, ih j i (by simpa using hj) hi]; simp
/-- A row of what is known of one's own. -/
def RowK (w : World) (base : Nat) (v : Value) (ks : List K6) : Prop := w.ownsRow base 72 6 v ks.length (kCells ks)
theorem RowK.nil {w : World} {base : Nat} : RowK w base (.slice none 0 0) [] := World.ownsRow_nil _ _ _ _
theorem RowK.lt {w : World} {base : Nat} {v : Value} {ks : List K6} (h : RowK w base v ks) : ∀ k, v.ownBlock = some k → base ≤ k ∧ k < w.heap.size := World.ownsRow.lt h
theorem RowK.kept {w w' : World} {base : Nat} {v : Value} {ks : List K6} {row : Option Nat} (h : RowK w base v ks) (hg : w.grownBy w' row) (hn : ∀ k, v.ownBlock = some k → some k ≠ row) : RowK w' base v ks :=
  World.ownsRow.kept h hg (by
    cases hv : v.ownBlock with
    | none => exact .inl rfl
    | some k => exact .inr (hn k hv))
theorem RowK.below {w w' : World} {base : Nat} {v : Value} {ks : List K6} (h : RowK w base v ks) (hb : Below w.heap.size w w') : RowK w' base v ks := RowK.kept h (row := none) (grown_below hb) (fun k _ e => by cases e)
theorem RowK.tap {w w' : World} {base b : Nat} {v : Value} {ks : List K6} (h : RowK w base v ks) (hg : w.grownBy w' (some b)) (hb : b < base) : RowK w' base v ks := RowK.kept h hg (fun k hk e => by have := (RowK.lt h k hk).1; injection e with e; omega)
theorem RowK.known {w : World} {base : Nat} {A : Option Addr} {cap : Nat} {ks : List K6} (h : RowK w base (.slice A ks.length cap) ks) (hm : ks.length ≤ 9223372036854775807) : KnAt w A ks.length ks := by
  refine ⟨rfl, hm, fun hl => ?_⟩
  obtain ⟨g, c, e, _, hg⟩ := World.ownsRow.form h hl
  cases e
  refine ⟨g, 0, rfl, hg, fun j hj => ?_⟩
  have hc := fun i (hi : i < 6) => World.ownsRow.cellAt h (j * 6 + i) (by omega)
  have hv := fun i (hi : i < 6) => (hc i hi).trans (kCells_get ks j i hj hi)
  rw [Nat.zero_add]
  exact ⟨hv 0 (by omega), hv 1 (by omega), hv 2 (by omega), hv 3 (by omega), hv 4 (by omega), hv 5 (by omega)⟩
theorem infoKn : (Try.prog.info? 72).map (fun i => (i.zero, i.size, i.bytes)) = some (some (.agg #[.int .i64 0, .int .i64 0, .int .i64 0, .int .i64 0, .int .i64 0, .int .i64 0]), 6, 48) := by kernel_rfl
/-- What the law makes. -/
def KOk (k : K6) : Prop := ∃ d, 0 ≤ d ∧ d < 60000 ∧ k.at_ = 70000 - d ∧ k.pp = 100000 ∧ k.le = 0 ∧ k.re = 0 ∧ -1000000 ≤ k.lo ∧ k.lo ≤ k.hi ∧ k.hi ≤ 1000000
theorem inD_el {d : Int} (h0 : 0 ≤ d) (h1 : d < 60000) : inD d 100000 = true := by simp [inD]; omega
theorem now_ok {k : K6} {d : Int} (h0 : 0 ≤ d) (h1 : d < 60000) (ha : k.at_ = 70000 - d) (hp : k.pp = 100000) (hl : k.le = 0) (hr : k.re = 0) (b0 : -1000000 ≤ k.lo) (b1 : k.lo ≤ k.hi) (b2 : k.hi ≤ 1000000) :
    nowK 70000 k = (k.lo + elLo d 100000, k.hi + elHi d 100000, 0) ∧ vS (k.lo + elLo d 100000) (k.hi + elHi d 100000) = true := by
  have l0 := lo_pos h0 (show (0 : Int) ≤ 100000 by decide) (by decide)
  have l1 := lo_le h0 (show (0 : Int) ≤ 100000 by decide) (by decide)
  have l2 := le_hi h0 (show (0 : Int) ≤ 100000 by decide) (by decide)
  have l3 := hi_two h0 (show (0 : Int) ≤ 100000 by decide) (by decide)
  have hv : vS k.lo k.hi = true := vS_true.2 (by omega)
  have hv2 : vS (k.lo + elLo d 100000) (k.hi + elHi d 100000) = true := vS_true.2 (by omega)
  refine ⟨?_, hv2⟩
  have hk : kE k.at_ k.lo k.hi k.pp k.le k.re = 0 := by
    unfold kE
    rw [if_neg (by rw [hv]; simp), if_pos ⟨by rw [ha]; simp [vT]; omega, by omega, by omega, by rw [hl]; decide, by rw [hr]; decide⟩]
  unfold nowK nowT
  rw [if_neg (by rw [hk]; simp), if_neg (by omega), if_neg (by simp [vT]), hv, show (70000 : Int) - k.at_ = d by omega, hp, inD_el h0 h1]
  unfold opT
  simp [hv2]
theorem KOk.now {k : K6} (h : KOk k) : (nowK 70000 k).2.2 = 0 ∧ vS (spK 70000 k).1 (spK 70000 k).2 = true := by
  obtain ⟨d, h0, h1, ha, hp, hl, hr, b0, b1, b2⟩ := h
  obtain ⟨e, v⟩ := now_ok h0 h1 ha hp hl hr b0 b1 b2
  unfold spK
  rw [e]
  exact ⟨rfl, v⟩
theorem merges_truth {ks : List K6} {f x y er : Int} (hk : ∀ k ∈ ks, KOk k) (hl : ks.length ≤ 9) (h0 : 0 ≤ f) (h1 : 2 * f < ks.length) (hc : (ks.length : Int) - f ≤ cntS (ks.map (spK 70000)) 100000) (h : MG ks 70000 f x y er) : er = 0 ∧ hdB x y 100000 = true := by
  have hk' : ∀ j, j < ks.length → (nowK 70000 (ks.getD j .zero)).2.2 = 0 := fun j hj => by
    have : ks.getD j .zero ∈ ks := by rw [List.getD_eq_getElem?_getD, List.getElem?_eq_getElem hj]; exact List.getElem_mem _
    exact (hk _ this).now.1
  rcases h with ⟨h9, -⟩ | ⟨-, i, hi, -, h9, -⟩ | ⟨-, -, hax⟩
  · omega
  · exact absurd (hk' i hi) h9
  · have hck : ckE (ks.map (spK 70000)) = 0 := ckE_0 (by rw [List.length_map]; omega) (bad_of fun z hz => by
      obtain ⟨k, hkm, rfl⟩ := List.mem_map.1 hz
      exact (hk k hkm).now.2)
    have hq : qE (ks.map (spK 70000)) f = 0 := qE_ok hck (by rw [List.length_map]; omega)
    obtain ⟨e, t0, t1, v⟩ := AX_truth hax hq (t := 100000) (by rw [List.length_map]; exact hc)
    exact ⟨e, by unfold hdB; rw [v]; simp [t0, t1]⟩
/-- One more. -/
theorem cnt_next {ks : List K6} {k : K6} {f : Int} {q : Nat} (hk : KOk k) (h : (q : Int) - f ≤ cntS (ks.map (spK 70000)) 100000) (hh : (q : Int) < f ∨ (k.lo + elLo (70000 - k.at_) 100000 ≤ 100000 ∧ 100000 ≤ k.hi + elHi (70000 - k.at_) 100000)) (hf : 0 ≤ cntS (ks.map (spK 70000)) 100000) : ((q + 1 : Nat) : Int) - f ≤ cntS ((ks ++ [k]).map (spK 70000)) 100000 := by
  rw [List.map_append, cntS_app, List.map_cons, List.map_nil, cntS_cons, show cntS [] 100000 = 0 from rfl]
  obtain ⟨d, h0, h1, ha, hp, hl, hr, b0, b1, b2⟩ := hk
  obtain ⟨e, v⟩ := now_ok h0 h1 ha hp hl hr b0 b1 b2
  rcases hh with hh | ⟨g0, g1⟩
  · split <;> omega
  · rw [show (70000 : Int) - k.at_ = d by omega] at g0 g1
    rw [if_pos (inS_iff.2 ⟨by unfold spK; rw [e]; exact v, by unfold spK; rw [e]; exact g0, by unfold spK; rw [e]; exact g1⟩)]
    omega
end Go.Proofs.Ytlfkkfdolnkjfaa
