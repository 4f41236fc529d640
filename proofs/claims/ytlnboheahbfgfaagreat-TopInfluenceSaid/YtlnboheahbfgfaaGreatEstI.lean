/- Estimate in both worlds. -/
import Derived.Test.YtlnboheahbfgfaaGreatJ6
import Derived.Test.YtlnboheahbfgfaaGreatLaw34S
import Derived.Test.YtlnboheahbfgfaaGreatJ19
import Derived.Test.YtlnboheahbfgfaaGreatQrI
import Derived.Test.YtlnboheahbfgfaaGreatRUnW
namespace Go.Proofs.YtlnboheahbfgfaaGreat
open Go.RowKit Go.Shelf Go.Sort
set_option linter.unusedSimpArgs false
set_option linter.unusedVariables false

/-- The spans with some numbers. -/
def chS (ss : List (Int × Int)) (ns : List Int) : List (Int × Int) := ns.map fun i => ss.getD i.toNat (0, 0)
theorem chS_len (ss : List (Int × Int)) (ns : List Int) : (chS ss ns).length = ns.length := by simp [chS]
theorem chS_next (ss : List (Int × Int)) (ns : List Int) (q : Nat) (h : q < ns.length) : chS ss (ns.take (q + 1)) = chS ss (ns.take q) ++ [ss.getD (ns.getD q 0).toNat (0, 0)] := by
  unfold chS
  have e : ns.getD q 0 = ns[q] := by rw [List.getD_eq_getElem?_getD, List.getElem?_eq_getElem h]; rfl
  rw [List.take_add_one, List.getElem?_eq_getElem h, List.map_append, e]
  rfl
/-- What Estimate gives. -/
def EstX (ss : List (Int × Int)) (seed : List Int) (k f x y er : Int) (zs : List Int) : Prop :=
  (drE seed.length ss.length k ≠ 0 ∧ x = 0 ∧ y = 0 ∧ zs = [] ∧ er = drE seed.length ss.length k) ∨
  (drE seed.length ss.length k = 0 ∧ ∃ x' y' er', AX (chS ss (drL seed ss.length k)) f x' y' er' ∧ ((er' ≠ 0 ∧ x = 0 ∧ y = 0 ∧ zs = [] ∧ er = er') ∨ (er' = 0 ∧ x = x' ∧ y = y' ∧ zs = drL seed ss.length k ∧ er = 0)))
def EstR (w : World) (ss : List (Int × Int)) (seed : List Int) (k f : Int) (e : Ending) (w' : World) : Prop := ∃ (x y er : Int) (zs : List Int) (A : Option Addr) (c : Nat), e = .returned (.tuple #[.agg #[.int .i64 x, .int .i64 y], .slice A zs.length c, .int .i64 er]) ∧ EstX ss seed k f x y er zs ∧ NsAt w' A zs ∧ Below w.heap.size w w'
def EChRel (w : World) (ss : List (Int × Int)) (ns : List Int) (v i : Value) (G : Nat) (wr : World) : Prop := ∃ (q : Nat) (A : Option Addr) (c : Nat), q ≤ ns.length ∧ G = ns.length - q ∧ i = .int .i64 q ∧ v = .slice A q c ∧ RowS wr w.heap.size (.slice A q c) (chS ss (ns.take q)) ∧ Below w.heap.size w wr
set_option maxRecDepth 100000 in
set_option maxHeartbeats 2000000 in
theorem chosen_any (A : Option Addr) (len cap : Nat) (ss : List (Int × Int)) (NA : Option Addr) (dl : List Int) (nc : Nat) (d32 : dl.length ≤ 32) (hr : ∀ j, j < dl.length → 0 ≤ dl.getD j 0 ∧ dl.getD j 0 < ss.length) (w : World) (h : SpansAt w A len ss) (b : NsAt w NA dl) :
    Calls Tryz.prog 38 #[.slice A len cap, .slice NA dl.length nc] w (fun e w' => ∃ A2 c2, e = .returned (.slice A2 dl.length c2) ∧ SpansAt w' A2 dl.length (chS ss dl) ∧ Below w.heap.size w w') := by
  obtain rfl := h.1
  have HS := Lib.hid h; have HN := Lib.hid b; have HRN := Lib.hid hr
  clear h b hr
  go_enter Tryz.func38, Tryz.ntmps38
  go_wp2
  go_loopg [5, 10] dl.length (fun G v i wr => EChRel w ss dl v i G wr)
  case atStart => exact ⟨0, none, 0, by omega, by omega, rfl, rfl, RowS.nil, Below.refl _ _⟩
  case round =>
    obtain ⟨q, A0, c0, hq, rfl, rfl, rfl, hrow, KR⟩ := hrel
    have ZR := KR.size
    have hrl := RowS.lt hrow
    have HRW := Lib.hid hrow; have HKR := Lib.hid KR
    have HSr := Lib.hid (HS.out.below KR); have HNr := Lib.hid (HN.out.below KR)
    clear hrow KR
    by_cases hlt : q < dl.length
    · have gq : decide ((q : Int) < (dl.length : Int)) = true := decide_eq_true (by omega)
      have gqn : decide (q < dl.length) = true := decide_eq_true hlt
      have wq : IntKind.i64.wrap ((q : Int) + 1) = ((q + 1 : Nat) : Int) := by rw [IntWalk.i64_in _ (by omega)]; omega
      obtain ⟨gn, on, rfl, hgn, hcn⟩ := HNr.out (by omega)
      replace hcn := hcn q hlt
      obtain ⟨hr0, hr1⟩ := HRN.out q hlt
      have hst := chS_next ss dl q hlt
      obtain ⟨p, hp⟩ : ∃ p : Nat, dl.getD q 0 = (p : Int) := ⟨(dl.getD q 0).toNat, by omega⟩
      rw [hp] at hcn hr1 hst
      rw [Int.toNat_natCast] at hst
      have hps : p < ss.length := by omega
      have gp : decide ((p : Int) < (ss.length : Int)) = true := decide_eq_true (by omega)
      have gpn : decide (p < ss.length) = true := decide_eq_true hps
      obtain ⟨bl, off, rfl, hbl, hcs⟩ := HSr.out.2.2 (by omega)
      obtain ⟨e0, e1⟩ := hcs p hps
      clear hcs hp hr0 hr1 HSr HNr
      generalize ss.getD p (0, 0) = z at e0 e1 hst
      obtain ⟨zl, zh⟩ := z
      dsimp only at e0 e1
      have hll := chS_len ss (dl.take q)
      rw [List.length_take, Nat.min_eq_left hq] at hll
      obtain ⟨zq, hzq⟩ : ∃ zq, chS ss (dl.take q) = zq := ⟨_, rfl⟩
      have hrow := HRW.out
      rw [hzq] at hst hll hrow
      have HST := Lib.hid hst; have HLL := Lib.hid hll; have HROW := Lib.hid hrow
      clear hst hll hrow hzq HRW
      obtain ⟨i0, hif, hz0, hz1, hz2⟩ := info_parts infoSpan
      generalize hv : (Value.slice A0 q c0) = v at *
      have HV := Lib.hid hv; clear hv
      have hrl := RowS.lt HROW.out
      go_wp2_with (at_builtin; refine wpList_append_lies _ rfl _ _ 27 rfl w.heap.size 29 i0 (.agg #[.int .i64 0, .int .i64 0]) 2 16 Tryz.underlying27 hif hz0 hz1 hz2 rfl (by decide) v q (cellsS zq) rfl (by have h := RowS.below HROW.out (show Below wr.heap.size wr _ from (Below.refl _ _).alloc (Nat.le_refl _) (.cells #[.int .i64 zl, .int .i64 zh] 29)); unfold RowS at h; rw [HLL.out] at h; exact h) ⟨wr.heap.size, 0, none⟩ 1 1 [.int .i64 zl, .int .i64 zh] rfl rfl (World.news_of_block (t := 29) (fr := (0, 0)) (Blk.new _ _ _)) ?c2 (by decide) ?c3 ?c4 ?c5 _ rfl ?_)
      case c2 => first | exact ⟨rfl, rfl⟩ | (intro u hu; simp at hu; rcases hu with rfl | rfl <;> rfl)
      case c3 => unfold maxLen; omega
      case c4 => omega
      case c5 => first | omega | (simp; omega)
      intro g9 cp9 w7 hown hgrow hlie hglt
      have K7 : Below w.heap.size w w7 := (HKR.out.alloc (by omega) _).grown hgrow (by simp; omega) (fun k hk => (hrl k hk).1)
      have hr7 : RowS w7 w.heap.size (.slice (some ⟨g9, 0, none⟩) (q + 1) cp9) (chS ss (dl.take (q + 1))) := by
        unfold RowS
        rw [HST.out, cellsS_snoc, List.length_append, HLL.out]; exact hown
      have R7 := Lib.hid hr7
      clear hown hgrow hlie hglt hr7 hrl
      go_wp2
      go_roundg (dl.length - (q + 1))
      case measure => omega
      case rel => exact ⟨q + 1, _, _, by omega, by omega, by go_num, rfl, R7.out, K7⟩
    · obtain rfl : q = dl.length := by omega
      have gq : decide ((dl.length : Int) < (dl.length : Int)) = false := decide_eq_false (by omega)
      have hrow := HRW.out
      rw [List.take_length] at hrow
      have hcl := chS_len ss dl
      obtain ⟨cz, hcz⟩ : ∃ cz, chS ss dl = cz := ⟨_, rfl⟩
      rw [hcz] at hrow hcl
      have hsp : SpansAt wr A0 cz.length cz := spans_of_row (by rw [hcl]; exact hrow) (by omega)
      rw [hcl] at hsp
      have HCZ := Lib.hid hcz; have HSP := Lib.hid hsp
      clear hrow hcl hcz hsp HRW HSr HNr hrl
      go_wp2
      go_ret
      exact ⟨A0, c0, rfl, by rw [HCZ.out]; exact HSP.out, HKR.out⟩
set_option maxRecDepth 100000 in
set_option maxHeartbeats 1000000 in
theorem iest_any (A : Option Addr) (len cap : Nat) (ss : List (Int × Int)) (B : Option Addr) (sl sc : Nat) (seed : List Int) (k f : Int) (hm : ss.length ≤ 4096) (hk : -9223372036854775808 ≤ k ∧ k ≤ 9223372036854775807) (w : World) (h : SpansAt w A len ss) (b : BysAt w B sl seed) :
    Calls Tryz.prog 13 #[.slice A len cap, .slice B sl sc, .int .i64 k, .int .i64 f] w (EstR w ss seed k f) := by
  obtain rfl := h.1
  obtain rfl := b.1
  have g0 : decide (4096 < (ss.length : Int)) = false := decide_eq_false (by omega)
  have g0n : decide (4096 < ss.length) = false := decide_eq_false (by omega)
  obtain ⟨er, her⟩ : ∃ er, drE seed.length ss.length k = er := ⟨_, rfl⟩
  obtain ⟨dl, hdl⟩ : ∃ dl, drL seed ss.length k = dl := ⟨_, rfl⟩
  have RD := Lib.hid (fun W h => her ▸ hdl ▸ odraw_any B seed.length sc seed ss.length k (by omega) hk W h)
  have HER := Lib.hid her; have HDL := Lib.hid hdl
  have HS0 := Lib.hid h; have HSD0 := Lib.hid b
  clear h b her hdl
  by_cases h0 : er = 0
  rotate_left
  · have ge : decide (er = 0) = false := decide_eq_false h0
    have geb : (er == 0) = false := by rw [beq_eq_false_iff_ne]; exact h0
    have HX := Lib.hid (show EstX ss seed k f 0 0 er [] from .inl (by rw [HER.out]; exact ⟨h0, rfl, rfl, rfl, rfl⟩))
    have HK := Lib.hid (show Kp w w from Below.refl _ _)
    have HSD := HSD0
    go_enter Tryz.func13, Tryz.ntmps13
    go_wp2_with fail
    refine (RD.out _ (HSD.out.below (by (repeat' (first | (with_reducible exact Below.refl _ _) | (with_reducible refine Below.setCell ?_ ?_ _) | (with_reducible refine Below.alloc ?_ ?_ _) | (with_reducible refine Below.drew ?_) | (with_reducible refine below_drewN ?_ _))) <;> (first | omega | (simp <;> omega))))).mono ?_
    rintro e w1 ⟨A1, d1, rfl, -, -, hn1, hb1⟩
    have S1 : Below w.heap.size w w1 := kept_call hb1 (by (repeat' (first | (with_reducible exact Below.refl _ _) | (with_reducible refine Below.setCell ?_ ?_ _) | (with_reducible refine Below.alloc ?_ ?_ _) | (with_reducible refine Below.drew ?_) | (with_reducible refine below_drewN ?_ _))) <;> (first | omega | (simp <;> omega)))
    have Z1 := S1.size
    have HB8 := Lib.hid (Blk.below (Blk.new w 29 #[.int .i64 0, .int .i64 0]) hb1)
    replace HK := Lib.hid (HK.out.below S1)
    replace HSD := Lib.hid (HSD.out.below S1)
    clear hb1 S1
    have h9 := h0
    have b8 := HB8.out
    obtain ⟨c8, f8, l8, e8, k8⟩ := Blk.facts b8
    go_wp2
    exact bodyPost_ret (v := .tuple #[.agg #[.int .i64 0, .int .i64 0], .slice none 0 0, .int .i64 er]) (by simp [results, Tryz.results13, go_sem, *]) rfl ⟨0, 0, er, [], none, 0, rfl, HX.out, NsAt.nil _ _, (by (repeat' (first | (with_reducible exact HK.out.b) | (with_reducible refine Below.setCell ?_ ?_ _) | (with_reducible refine Below.alloc ?_ ?_ _) | (with_reducible refine Below.drew ?_) | (with_reducible refine below_drewN ?_ _))) <;> (first | omega | (simp <;> omega)))⟩
  · subst h0
    have hdi := drL_in HER.out
    rw [HDL.out] at hdi
    obtain ⟨d0, d1, d2, d3, d4, d5, d6⟩ := hdi
    obtain ⟨kn, rfl⟩ : ∃ kn : Nat, k = (kn : Int) := ⟨k.toNat, by omega⟩
    have hrng : ∀ j, j < dl.length → 0 ≤ dl.getD j 0 ∧ dl.getD j 0 < ss.length := fun j hj => by rw [← HDL.out]; exact drL_rng d6 (by omega) (by omega) (by omega) (by omega) j (by omega)
    have HRN := Lib.hid hrng
    have dl32 : dl.length ≤ 32 := by omega
    clear hrng d0 d6
    obtain ⟨zs, hzs⟩ : ∃ zs, chS ss dl = zs := ⟨_, rfl⟩
    have hzl : zs.length = dl.length := by rw [← hzs, chS_len]
    have HZS := Lib.hid hzs
    have HK := Lib.hid (show Kp w w from Below.refl _ _)
    have HSD := HSD0; have HS := HS0
    go_enter Tryz.func13, Tryz.ntmps13
    go_wp2_with fail
    refine (RD.out _ (HSD.out.below (by (repeat' (first | (with_reducible exact Below.refl _ _) | (with_reducible refine Below.setCell ?_ ?_ _) | (with_reducible refine Below.alloc ?_ ?_ _) | (with_reducible refine Below.drew ?_) | (with_reducible refine below_drewN ?_ _))) <;> (first | omega | (simp <;> omega))))).mono ?_
    rintro e w1 ⟨A1, c1, rfl, -, hA1, hn1, hb1⟩
    have S1 : Below w.heap.size w w1 := kept_call hb1 (by (repeat' (first | (with_reducible exact Below.refl _ _) | (with_reducible refine Below.setCell ?_ ?_ _) | (with_reducible refine Below.alloc ?_ ?_ _) | (with_reducible refine Below.drew ?_) | (with_reducible refine below_drewN ?_ _))) <;> (first | omega | (simp <;> omega)))
    have Z1 := S1.size
    have HB8 := Lib.hid (Blk.below (Blk.new w 29 #[.int .i64 0, .int .i64 0]) hb1)
    have HN := Lib.hid (hn1)
    replace HK := Lib.hid (HK.out.below S1)
    replace HSD := Lib.hid (HSD.out.below S1)
    replace HS := Lib.hid (HS.out.below S1)
    clear hb1 S1
    clear hn1
    go_wp2_with fail
    refine (chosen_any A ss.length cap ss A1 dl c1 dl32 HRN.out _ (HS.out.below (by (repeat' (first | (with_reducible exact Below.refl _ _) | (with_reducible refine Below.setCell ?_ ?_ _) | (with_reducible refine Below.alloc ?_ ?_ _) | (with_reducible refine Below.drew ?_) | (with_reducible refine below_drewN ?_ _))) <;> (first | omega | (simp <;> omega)))) (HN.out.below (by (repeat' (first | (with_reducible exact Below.refl _ _) | (with_reducible refine Below.setCell ?_ ?_ _) | (with_reducible refine Below.alloc ?_ ?_ _) | (with_reducible refine Below.drew ?_) | (with_reducible refine below_drewN ?_ _))) <;> (first | omega | (simp <;> omega))))).mono ?_
    rintro e w2 ⟨A2, c2, rfl, hcs, hb2⟩
    have S2 : Below w1.heap.size w1 w2 := kept_call hb2 (by (repeat' (first | (with_reducible exact Below.refl _ _) | (with_reducible refine Below.setCell ?_ ?_ _) | (with_reducible refine Below.alloc ?_ ?_ _) | (with_reducible refine Below.drew ?_) | (with_reducible refine below_drewN ?_ _))) <;> (first | omega | (simp <;> omega)))
    have Z2 := S2.size
    have HC := Lib.hid (hcs)
    replace HK := Lib.hid (HK.out.below S2)
    replace HSD := Lib.hid (HSD.out.below S2)
    replace HS := Lib.hid (HS.out.below S2)
    replace HB8 := Lib.hid (HB8.out.below S2)
    replace HN := Lib.hid (HN.out.below S2)
    clear hb2 S2
    clear hcs
    rw [HZS.out] at HC
    clear hzs
    go_wp2_with fail
    refine (qAgree_any _ _ _ zs f _ (HC.out.below (by (repeat' (first | (with_reducible exact Below.refl _ _) | (with_reducible refine Below.setCell ?_ ?_ _) | (with_reducible refine Below.alloc ?_ ?_ _) | (with_reducible refine Below.drew ?_) | (with_reducible refine below_drewN ?_ _))) <;> (first | omega | (simp <;> omega))))).mono ?_
    rintro e w11 ⟨x, y, e9, rfl, hax, hb11⟩
    have S11 : Below w2.heap.size w2 w11 := kept_call hb11 (by (repeat' (first | (with_reducible exact Below.refl _ _) | (with_reducible refine Below.setCell ?_ ?_ _) | (with_reducible refine Below.alloc ?_ ?_ _) | (with_reducible refine Below.drew ?_) | (with_reducible refine below_drewN ?_ _))) <;> (first | omega | (simp <;> omega)))
    have Z11 := S11.size
    replace HK := Lib.hid (HK.out.below S11)
    replace HSD := Lib.hid (HSD.out.below S11)
    replace HS := Lib.hid (HS.out.below S11)
    replace HB8 := Lib.hid (HB8.out.below S11)
    replace HN := Lib.hid (HN.out.below S11)
    replace HC := Lib.hid (HC.out.below S11)
    clear hb11 S11
    have HAX := Lib.hid hax; clear hax
    by_cases h9 : e9 = 0
    · subst h9
      have HX := Lib.hid (show EstX ss seed kn f x y 0 dl from .inr ⟨HER.out, x, y, 0, by rw [HDL.out, HZS.out]; exact HAX.out, .inr ⟨rfl, rfl, rfl, HDL.out.symm, rfl⟩⟩)
      have b8 := HB8.out
      obtain ⟨c8, f8, l8, e8, k8⟩ := Blk.facts b8
      go_wp2
      exact bodyPost_ret (v := .tuple #[.agg #[.int .i64 x, .int .i64 y], .slice A1 dl.length c1, .int .i64 0]) (by simp [results, Tryz.results13, go_sem, *]) rfl ⟨x, y, 0, dl, A1, c1, rfl, HX.out, (by (repeat' (first | (with_reducible exact HN.out) | (with_reducible refine NsAt.far ?_ hA1 ?_ _) | (refine NsAt.below ?_ ((Below.refl _ _).alloc (Nat.le_refl _) _)))) <;> (first | omega | (simp <;> omega))), (by (repeat' (first | (with_reducible exact HK.out.b) | (with_reducible refine Below.setCell ?_ ?_ _) | (with_reducible refine Below.alloc ?_ ?_ _) | (with_reducible refine Below.drew ?_) | (with_reducible refine below_drewN ?_ _))) <;> (first | omega | (simp <;> omega)))⟩
    · have ge : decide (e9 = 0) = false := decide_eq_false h9
      have geb : (e9 == 0) = false := by rw [beq_eq_false_iff_ne]; exact h9
      have HX := Lib.hid (show EstX ss seed kn f 0 0 e9 [] from .inr ⟨HER.out, x, y, e9, by rw [HDL.out, HZS.out]; exact HAX.out, .inl ⟨h9, rfl, rfl, rfl, rfl⟩⟩)
      have b8 := HB8.out
      obtain ⟨c8, f8, l8, e8, k8⟩ := Blk.facts b8
      go_wp2
      exact bodyPost_ret (v := .tuple #[.agg #[.int .i64 0, .int .i64 0], .slice none 0 0, .int .i64 e9]) (by simp [results, Tryz.results13, go_sem, *]) rfl ⟨0, 0, e9, [], none, 0, rfl, HX.out, NsAt.nil _ _, (by (repeat' (first | (with_reducible exact HK.out.b) | (with_reducible refine Below.setCell ?_ ?_ _) | (with_reducible refine Below.alloc ?_ ?_ _) | (with_reducible refine Below.drew ?_) | (with_reducible refine below_drewN ?_ _))) <;> (first | omega | (simp <;> omega)))⟩
end Go.Proofs.YtlnboheahbfgfaaGreat
