/- The reference's Union, for every list. -/
import Derived.BigQuiet
import Derived.Deep.AppendLies
import Derived.Deep.LoopGhost
import Derived.Deep.QuietTactic
import Derived.Laws.AppendOwnNone
import Derived.OwnWalk
import Derived.Test.YtlfkkfdolnkjfaaCalmP
import Derived.Test.YtlfkkfdolnkjfaaJ31
namespace Go.Proofs.Ytlfkkfdolnkjfaa
open Go.RowKit Go.Shelf Go.Sort
set_option linter.unusedSimpArgs false
set_option linter.unusedVariables false

/-- A row of spans of one's own. -/
def RowS (w : World) (base : Nat) (v : Value) (zs : List (Int × Int)) : Prop := w.ownsRow base 35 2 v zs.length (cellsS zs)
theorem RowS.form {w : World} {base : Nat} {v : Value} {zs : List (Int × Int)} (h : RowS w base v zs) (hl : 0 < zs.length) : ∃ g cap, v = .slice (some ⟨g, 0, none⟩) zs.length cap ∧ base ≤ g ∧ g < w.heap.size ∧ (∀ j, j < zs.length → w.cell? ⟨g, j * 2, none⟩ = some (.int .i64 (zs.getD j (0, 0)).1) ∧ w.cell? ⟨g, j * 2 + 1, none⟩ = some (.int .i64 (zs.getD j (0, 0)).2)) := by
  obtain ⟨g, c, e, h1, h2⟩ := World.ownsRow.form h hl
  subst e
  refine ⟨g, c, rfl, h1, h2, fun j hj => ?_⟩
  obtain ⟨a1, a2⟩ := cellsS_get zs j hj
  refine ⟨?_, ?_⟩
  · rw [World.ownsRow.cellAt h _ (by omega)]; exact a1
  · rw [World.ownsRow.cellAt h _ (by omega)]; exact a2
theorem RowS.len {w : World} {base : Nat} {v : Value} {zs : List (Int × Int)} (h : RowS w base v zs) : ∃ A cap, v = .slice A zs.length cap := by
  obtain ⟨-, ⟨e, hn⟩ | ⟨g, cap, cur, e, -⟩⟩ := h
  · exact ⟨none, 0, by rw [e, hn]⟩
  · exact ⟨_, _, e⟩
theorem RowS.nil {w : World} {base : Nat} : RowS w base (.slice none 0 0) [] := World.ownsRow_nil _ _ _ _
theorem RowS.kept {w w' : World} {base : Nat} {v : Value} {zs : List (Int × Int)} {row : Option Nat} (h : RowS w base v zs) (hg : w.grownBy w' row) (hn : ∀ k, v.ownBlock = some k → some k ≠ row) : RowS w' base v zs :=
  World.ownsRow.kept h hg (by
    cases hv : v.ownBlock with
    | none => exact .inl rfl
    | some k => exact .inr (hn k hv))
theorem RowS.lt {w : World} {base : Nat} {v : Value} {zs : List (Int × Int)} (h : RowS w base v zs) : ∀ k, v.ownBlock = some k → base ≤ k ∧ k < w.heap.size := World.ownsRow.lt h
theorem RowS.alloc {w : World} {base : Nat} {v : Value} {zs : List (Int × Int)} (h : RowS w base v zs) (o : Obj) : RowS (w.alloc o) base v zs := World.ownsRow.alloc h o
theorem RowS.drewN {w : World} {base : Nat} {v : Value} {zs : List (Int × Int)} (h : RowS w base v zs) (n : Nat) : RowS (w.drewN n) base v zs := h
theorem set_grown (w : World) (g k : Nat) (u : Value) : w.grownBy (w.setCell ⟨g, k, none⟩ u) (some g) := ⟨rfl, rfl, rfl, by simp [World.setCell], fun kk hk hn => Below.heap_setCell _ _ _ _ (fun e => hn (by rw [e]))⟩
theorem grown_both {a b c : World} {r : Option Nat} (h : a.grownBy b r) (k : b.grownBy c r) : a.grownBy c r := ⟨k.os.trans h.os, k.tape.trans h.tape, k.output.trans h.output, Nat.le_trans h.size k.size, fun q hq hn => (k.block q (Nat.lt_of_lt_of_le hq h.size) hn).trans (h.block q hq hn)⟩
theorem alloc_grown (w : World) (o : Obj) (r : Option Nat) : w.grownBy (w.alloc o) r := ⟨rfl, rfl, rfl, by simp, fun kk hk _ => Below.heap_alloc w o kk hk⟩
theorem spans_of_row {w : World} {base : Nat} {A : Option Addr} {cap : Nat} {zs : List (Int × Int)} (h : RowS w base (.slice A zs.length cap) zs) (hm : zs.length ≤ 9223372036854775807) : SpansAt w A zs.length zs := spans_of_own h hm
theorem cellsS_at {zs : List (Int × Int)} {w : World} {bl off : Nat} (h : ∀ j, j < zs.length → w.cell? ⟨bl, off + j * 2, none⟩ = some (.int .i64 (zs.getD j (0, 0)).1) ∧ w.cell? ⟨bl, off + j * 2 + 1, none⟩ = some (.int .i64 (zs.getD j (0, 0)).2)) : ∀ j u, (cellsS zs)[j]? = some u → w.cell? ((⟨bl, off, none⟩ : Addr).add j) = some u := by
  intro j u hu
  have hlt : j < zs.length * 2 := by rw [← cellsS_length]; exact (List.getElem?_eq_some_iff.1 hu).1
  have ea : (⟨bl, off, none⟩ : Addr).add j = ⟨bl, off + j, none⟩ := by unfold Addr.add; split <;> simp_all
  rw [ea]
  obtain ⟨q, hq | hq⟩ : ∃ q, j = q * 2 ∨ j = q * 2 + 1 := ⟨j / 2, by omega⟩
  · subst hq
    rw [(cellsS_get zs q (by omega)).1] at hu
    rw [(h q (by omega)).1]; exact hu
  · subst hq
    rw [(cellsS_get zs q (by omega)).2] at hu
    rw [← Nat.add_assoc, (h q (by omega)).2]; exact hu
theorem cellsS_one {zs : List (Int × Int)} : ∀ u ∈ cellsS zs, u.oneCell' = true := by
  intro u hu
  unfold cellsS at hu
  obtain ⟨z, _, hz⟩ := List.mem_flatMap.1 hu
  simp at hz
  rcases hz with rfl | rfl <;> rfl
/-- The first loop: all so far are valid. -/
def RV1 (w : World) (zs : List (Int × Int)) (G : Nat) (i : Value) (wr : World) : Prop := ∃ q : Nat, q ≤ zs.length ∧ G = zs.length - q ∧ i = .int .i64 q ∧ (∀ j, j < q → vS (zs.getD j (0, 0)).1 (zs.getD j (0, 0)).2 = true) ∧ Below w.heap.size w wr
/-- The head of the outer loop. -/
def RUo (w : World) (base : Nat) (zs : List (Int × Int)) (G : Nat) (v5 v6 : Value) (wr : World) : Prop := ∃ R out : List (Int × Int), G = R.length ∧ RowS wr base v5 R ∧ RowS wr base v6 out ∧ (∀ k, v5.ownBlock = some k → v6.ownBlock ≠ some k) ∧ out.length + R.length ≤ 64 ∧
  (∀ x ∈ R, vS x.1 x.2 = true) ∧ (∀ x ∈ out, vS x.1 x.2 = true) ∧ gapsS out ∧ (∀ o ∈ out, ∀ x ∈ R, o.2 + 2 ≤ x.1) ∧ (∀ t, anyIn t (out ++ R) = anyIn t zs) ∧ Below w.heap.size w wr
/-- The search for the least. -/
def RUm (w : World) (R : List (Int × Int)) (G : Nat) (a i : Value) (wr : World) : Prop := ∃ at_ q : Nat, at_ < R.length ∧ 1 ≤ q ∧ q ≤ R.length ∧ G = R.length - q ∧ a = .int .i64 at_ ∧ i = .int .i64 q ∧ (∀ j, j < q → (R.getD at_ (0, 0)).1 ≤ (R.getD j (0, 0)).1) ∧ ∃ n, wr = w.drewN n
theorem anyIn_mem {t : Int} {s : Int × Int} {R : List (Int × Int)} (h : s ∈ R) : (inS t s || anyIn t R) = anyIn t R := by
  cases hs : inS t s with
  | false => rfl
  | true => rw [Bool.true_or]; exact (List.any_eq_true.2 ⟨s, h, hs⟩).symm
/-- The head of the loop that joins. -/
def RUa (w : World) (base sb : Nat) (R out : List (Int × Int)) (v6 : Value) (lo hi0 : Int) (G : Nat) (v5 v10 : Value) (wr : World) : Prop := ∃ (R' : List (Int × Int)) (hi : Int) (a : Bool), G = R'.length + a.toNat ∧ RowS wr base v5 R' ∧ RowS wr base v6 out ∧ (∀ k, v5.ownBlock = some k → v6.ownBlock ≠ some k ∧ k ≠ sb) ∧ v10 = .bool a ∧ Blk wr sb 35 #[.int .i64 lo, .int .i64 hi] ∧
  vS lo hi = true ∧ (∀ x ∈ R', x ∈ R) ∧ (∀ t, (inS t (lo, hi) || anyIn t R') = anyIn t R) ∧ (a = false → ∀ x ∈ R', hi + 1 < x.1) ∧ (R'.length < R.length ∨ (a = true ∧ R' = R ∧ hi = hi0)) ∧ R'.length ≤ R.length ∧ Below w.heap.size w wr
/-- One pass. -/
def RUp (w : World) (base sb : Nat) (R' out : List (Int × Int)) (v5 v6 : Value) (lo hi : Int) (G : Nat) (v10 v11 i : Value) (wr : World) : Prop := ∃ j : Nat, j ≤ R'.length ∧ G = R'.length - j ∧ i = .int .i64 j ∧ RowS wr base v5 R' ∧ RowS wr base v6 out ∧ RowS wr base v11 (passP hi (R'.take j)).2.2 ∧ v10 = .bool (passP hi (R'.take j)).2.1 ∧ Blk wr sb 35 #[.int .i64 lo, .int .i64 (passP hi (R'.take j)).1] ∧
  (∀ k, v11.ownBlock = some k → v5.ownBlock ≠ some k ∧ v6.ownBlock ≠ some k ∧ k ≠ sb) ∧ Below w.heap.size w wr
/-- What the reference's Union gives. -/
def RUnionR (w : World) (zs : List (Int × Int)) (e : Ending) (w' : World) : Prop := Below w.heap.size w w' ∧
  ((badS zs = true ∧ e = .returned (.tuple #[.slice none 0 0, .int .i64 3])) ∨ (badS zs = false ∧ 64 < zs.length ∧ e = .returned (.tuple #[.slice none 0 0, .int .i64 8])) ∨
   (badS zs = false ∧ zs.length ≤ 64 ∧ ∃ (us : List (Int × Int)) (A : Option Addr) (cap : Nat), e = .returned (.tuple #[.slice A us.length cap, .int .i64 0]) ∧ SpansAt w' A us.length us ∧ us.length ≤ 64 ∧ gapsS us ∧ (∀ z ∈ us, vS z.1 z.2 = true) ∧ ∀ t, anyIn t us = anyIn t zs))
set_option maxRecDepth 100000 in
set_option maxHeartbeats 4000000 in
theorem runion_any (A : Option Addr) (len cap : Nat) (zs : List (Int × Int)) (hN : A = none → cap = 0) (w : World) (h : SpansAt w A len zs) :
    Calls Try.prog 25 #[.slice A len cap] w (RUnionR w zs) := by
  have hz := h.1
  have hlm := h.2.1
  have H := Lib.hid h; clear h
  have HN := Lib.hid hN; clear hN
  subst hz
  go_enter Try.func25, Try.ntmps25
  go_wp2
  go_loopg [4] zs.length (fun G i wr => RV1 w zs G i wr)
  case atStart => exact ⟨0, by omega, by omega, rfl, fun j hj => by omega, by (repeat' (first | (with_reducible exact Below.refl _ _) | (with_reducible refine Below.setCell ?_ ?_ _) | (with_reducible refine Below.alloc ?_ ?_ _) | (with_reducible refine Below.drew ?_) | (with_reducible refine below_drewN ?_ _))) <;> (first | omega | (simp <;> omega))⟩
  case round =>
    obtain ⟨q, hq, rfl, rfl, hv, KR⟩ := hrel
    have ZR := KR.size
    have HV := Lib.hid hv; clear hv
    by_cases hlt : q < zs.length
    · have gk : decide ((q : Int) < (zs.length : Int)) = true := decide_eq_true (by omega)
      obtain ⟨bl, off, rfl, hb, hcs⟩ := H.out.2.2 (by omega)
      obtain ⟨e0, e1⟩ := hcs q hlt
      clear hcs
      have e0 := (KR.cell (p := ⟨bl, off + q * 2, none⟩) hb).trans e0
      have e1 := (KR.cell (p := ⟨bl, off + q * 2 + 1, none⟩) hb).trans e1
      have hbW : bl < wr.heap.size := by omega
      have wq : IntKind.i64.wrap ((q : Int) + 1) = ((q + 1 : Nat) : Int) := by rw [IntWalk.i64_in _ (by omega)]; omega
      have hzq : zs.getD q (0, 0) ∈ zs := by rw [List.getD_eq_getElem?_getD, List.getElem?_eq_getElem hlt]; exact List.getElem_mem _
      obtain ⟨b, hbv⟩ : ∃ b, vS (zs.getD q (0, 0)).1 (zs.getD q (0, 0)).2 = b := ⟨_, rfl⟩
      generalize hzz : zs.getD q (0, 0) = z at *
      have HZZ := Lib.hid hzz; clear hzz
      obtain ⟨x, y⟩ := z
      dsimp only at e0 e1 hbv
      have RV := Lib.hid (fun W => hbv ▸ (show Calls _ _ _ _ (RB W _) from (rsvalid_any x y W).mono (fun _ _ hh => ⟨hh.1, hh.2 ▸ (Below.refl _ _).alloc (Nat.le_refl _) _⟩)))
      have HB := Lib.hid hbv; have HZ := Lib.hid hzq; clear hbv hzq
      cases b with
      | true =>
        go_wp2_with fail
        refine (RV.out _).mono ?_
        rintro e w1 ⟨rfl, hb1⟩
        have K1 : Below w.heap.size w w1 := kept_call hb1 (by (repeat' (first | (with_reducible exact KR) | (with_reducible refine Below.setCell ?_ ?_ _) | (with_reducible refine Below.alloc ?_ ?_ _) | (with_reducible refine Below.drew ?_) | (with_reducible refine below_drewN ?_ _))) <;> (first | omega | (simp <;> omega)))
        have Z1 : w.heap.size ≤ w1.heap.size := K1.size
        clear hb1 KR
        go_wp2
        go_roundg (zs.length - (q + 1))
        case measure => omega
        case rel => exact ⟨q + 1, by omega, by omega, by go_num, fun j hj => by by_cases e9 : j = q; (subst e9; rw [HZZ.out]; exact HB.out); (exact HV.out j (by omega)), by (repeat' (first | (with_reducible exact K1) | (with_reducible refine Below.setCell ?_ ?_ _) | (with_reducible refine Below.alloc ?_ ?_ _) | (with_reducible refine Below.drew ?_) | (with_reducible refine below_drewN ?_ _))) <;> (first | omega | (simp <;> omega))⟩
      | false =>
        have hbad : badS zs = true := by unfold badS anyS; exact List.any_eq_true.2 ⟨_, HZ.out, by show (!vS x y) = true; rw [HB.out]; rfl⟩
        have HBAD := Lib.hid hbad; clear hbad
        go_wp2_with fail
        refine (RV.out _).mono ?_
        rintro e w1 ⟨rfl, hb1⟩
        have K1 : Below w.heap.size w w1 := kept_call hb1 (by (repeat' (first | (with_reducible exact KR) | (with_reducible refine Below.setCell ?_ ?_ _) | (with_reducible refine Below.alloc ?_ ?_ _) | (with_reducible refine Below.drew ?_) | (with_reducible refine below_drewN ?_ _))) <;> (first | omega | (simp <;> omega)))
        have Z1 : w.heap.size ≤ w1.heap.size := K1.size
        clear hb1 KR
        go_wp2
        go_ret2
        exact ⟨by (repeat' (first | (with_reducible exact K1) | (with_reducible refine Below.setCell ?_ ?_ _) | (with_reducible refine Below.alloc ?_ ?_ _) | (with_reducible refine Below.drew ?_) | (with_reducible refine below_drewN ?_ _))) <;> (first | omega | (simp <;> omega)), .inl ⟨HBAD.out, rfl⟩⟩
    · obtain rfl : zs.length = q := by omega
      have gk : decide ((zs.length : Int) < (zs.length : Int)) = false := decide_eq_false (by omega)
      have hok : badS zs = false := by unfold badS; rw [anyS_false]; intro j hj; rw [HV.out j hj]; rfl
      have hval : ∀ z ∈ zs, vS z.1 z.2 = true := fun z hz' => by have h1 := List.any_eq_false.1 hok z hz'; simpa using h1
      have HOK := Lib.hid hok; have HVAL := Lib.hid hval; clear hok hval
      by_cases h64 : 64 < zs.length
      · have g64 : decide (64 < (zs.length : Int)) = true := decide_eq_true (by omega)
        have g64n : decide (64 < zs.length) = true := decide_eq_true h64
        go_wp2
        go_ret2
        exact ⟨by (repeat' (first | (with_reducible exact KR) | (with_reducible refine Below.setCell ?_ ?_ _) | (with_reducible refine Below.alloc ?_ ?_ _) | (with_reducible refine Below.drew ?_) | (with_reducible refine below_drewN ?_ _))) <;> (first | omega | (simp <;> omega)), .inr (.inl ⟨HOK.out, h64, rfl⟩)⟩
      have g64 : decide (64 < (zs.length : Int)) = false := decide_eq_false (by omega)
      have g64n : decide (64 < zs.length) = false := decide_eq_false h64
      clear hlt
      go_upto_region 8 with fail
      go_cut [5] (fun v5 wx => RowS wx w.heap.size v5 zs ∧ Below w.heap.size w wx)
      case first =>
        obtain ⟨i0, hif, hz0, hz1, hz2⟩ := info_parts infoSpan
        have hlit : (wr.alloc (.cells #[] 35)).ownsRow w.heap.size 35 2 (.slice (some ⟨wr.heap.size, 0, none⟩) 0 0) 0 [] := ⟨rfl, .inr ⟨wr.heap.size, 0, #[], rfl, ZR, heap_alloc_new _ _, Nat.le_refl _, by decide, rfl, rfl⟩⟩
        have HLIT := Lib.hid hlit; clear hlit
        have KA : Below w.heap.size w (wr.alloc (.cells #[] 35)) := KR.alloc ZR _
        by_cases h0 : A = none
        · have hc0 := HN.out h0
          have hl0 : zs.length = 0 := by
            by_cases e : 0 < zs.length
            · obtain ⟨bl, off, e2, -⟩ := H.out.2.2 e
              rw [h0] at e2; cases e2
            · omega
          have hzn : zs = [] := List.length_eq_zero_iff.1 hl0
          subst h0; subst hzn; subst hc0
          go_wp2_with (at_builtin; refine wpList_append_own_none rfl _ _ 43 rfl w.heap.size 35 i0 2 Try.underlying43 hif _ 0 [] rfl HLIT.out rfl ?_)
          go_wp2_with fail
          go_meet
          exact ⟨HLIT.out, KA⟩
        · obtain ⟨ad, rfl⟩ : ∃ ad, A = some ad := by
            cases A with
            | none => exact absurd rfl h0
            | some ad => exact ⟨ad, rfl⟩
          have hcl : ∀ j u, (cellsS zs)[j]? = some u → (wr.alloc (.cells #[] 35)).cell? (ad.add j) = some u := by
            intro j u hu
            have hlt : j < zs.length * 2 := by rw [← cellsS_length]; exact (List.getElem?_eq_some_iff.1 hu).1
            obtain ⟨bl, off, e2, hb, hcs⟩ := H.out.2.2 (by omega)
            obtain rfl : ad = ⟨bl, off, none⟩ := by injection e2
            refine cellsS_at (fun j hj => ?_) j u hu
            exact ⟨(KA.cell (p := ⟨bl, off + j * 2, none⟩) hb).trans (hcs j hj).1, (KA.cell (p := ⟨bl, off + j * 2 + 1, none⟩) hb).trans (hcs j hj).2⟩
          have HCL := Lib.hid hcl; clear hcl
          go_wp2_with (at_builtin; refine wpList_append_own _ rfl _ _ 43 rfl w.heap.size 35 i0 (.agg #[.int .i64 0, .int .i64 0]) 2 16 Try.underlying43 hif hz0 hz1 hz2 rfl (by decide) _ 0 [] rfl HLIT.out ad zs.length cap (cellsS zs) rfl (cellsS_length zs) HCL.out cellsS_one ?c3 ?c4 ?c5 ?_)
          case c3 => unfold maxLen; omega
          case c4 => omega
          case c5 => simp; omega
          intro v' w2 hown hgrow _
          have K2 : Below w.heap.size w w2 := KA.grown hgrow (by simp; omega) (fun k hk => by simp [Value.ownBlock] at hk; omega)
          have hrow : RowS w2 w.heap.size v' zs := by
            unfold RowS
            first | exact hown | (rw [Nat.zero_add, List.nil_append] at hown; exact hown)
          clear hown hgrow
          have HROW := Lib.hid hrow; clear hrow
          go_wp2_with fail
          go_meet
          exact ⟨HROW.out, K2⟩
      case rest =>
        obtain ⟨hrow, KC⟩ := hcut
        clear KR ZR
        have ZC := KC.size
        have HROW := Lib.hid hrow; clear hrow
        go_wp2
        go_loopg [5, 6] zs.length (fun G v5 v6 wr => RUo w w.heap.size zs G v5 v6 wr)
        case atStart => exact ⟨zs, [], rfl, HROW.out, RowS.nil, (fun k _ h => by cases h), (by simp; omega), HVAL.out, by simp, fun i hi => by simp at hi, by simp, fun t => rfl, KC⟩
        case round =>
          obtain ⟨R, out, rfl, hR, hO, hdis, hlen, hvR, hvO, hgap, hsep, hin, KO⟩ := hrel
          clear KC ZC HROW
          have ZO := KO.size
          have HR := Lib.hid hR; have HO := Lib.hid hO; have HD := Lib.hid hdis; have HI := Lib.hid (And.intro hvR (And.intro hvO (And.intro hgap (And.intro hsep hin))))
          clear hvR hvO hgap hsep hin
          by_cases hne : 0 < R.length
          · have gk : decide (0 < (R.length : Int)) = true := decide_eq_true (by omega)
            have gkn : decide (0 < R.length) = true := decide_eq_true hne
            obtain ⟨g, cp, rfl, hg1, hg2, hgc⟩ := RowS.form hR hne
            clear hR
            have HGC := Lib.hid hgc; clear hgc
            go_wp2
            generalize hw0 : wr = w0 at *
            clear hw0
            go_loopg [7, 8] (R.length - 1) (fun G a i wr => RUm w0 R G a i wr)
            case atStart => exact ⟨0, 1, hne, by omega, by omega, by omega, rfl, rfl, fun j hj => by (obtain rfl : j = 0 := by omega); exact Int.le_refl _, 0, rfl⟩
            case round =>
              obtain ⟨m, q, hm, hq1, hq2, rfl, rfl, rfl, hmin, nd, rfl⟩ := hrel
              have HM := Lib.hid hmin; clear hmin
              by_cases hlt : q < R.length
              · have gq : decide ((q : Int) < (R.length : Int)) = true := decide_eq_true (by omega)
                have e0 := (HGC.out q hlt).1
                have e1 := (HGC.out m hm).1
                have wq : IntKind.i64.wrap ((q : Int) + 1) = ((q + 1 : Nat) : Int) := by rw [IntWalk.i64_in _ (by omega)]; omega
                obtain ⟨x, hx⟩ : ∃ x, (R.getD q (0, 0)).1 = x := ⟨_, rfl⟩
                obtain ⟨y, hy⟩ : ∃ y, (R.getD m (0, 0)).1 = y := ⟨_, rfl⟩
                rw [hx] at e0
                rw [hy] at e1
                have HX := Lib.hid hx; have HY := Lib.hid hy; clear hx hy
                by_cases hc : x < y
                · have gc : decide (x < y) = true := decide_eq_true hc
                  go_wp2_with fail
                  go_quiet (fail)
                  clear e0 e1
                  go_wp2
                  go_roundg (R.length - (q + 1))
                  case measure => omega
                  case rel => exact ⟨q, q + 1, hlt, by omega, by omega, by omega, rfl, by go_num, fun j hj => by by_cases e9 : j = q; (subst e9; exact Int.le_refl _); (have := HM.out j (by omega); have := HX.out; have := HY.out; omega), _, rfl⟩
                · have gc : decide (x < y) = false := decide_eq_false hc
                  go_wp2_with fail
                  go_quiet (fail)
                  clear e0 e1
                  go_wp2
                  go_roundg (R.length - (q + 1))
                  case measure => omega
                  case rel => exact ⟨m, q + 1, hm, by omega, by omega, by omega, rfl, by go_num, fun j hj => by by_cases e9 : j = q; (subst e9; have := HX.out; have := HY.out; omega); (exact HM.out j (by omega)), _, rfl⟩
              · obtain rfl : R.length = q := by omega
                have gq : decide ((R.length : Int) < (R.length : Int)) = false := decide_eq_false (by omega)
                obtain ⟨e0, e1⟩ := HGC.out m hm
                have hsm : R.getD m (0, 0) ∈ R := by rw [List.getD_eq_getElem?_getD, List.getElem?_eq_getElem hm]; exact List.getElem_mem _
                have hlo : ∀ x ∈ R, (R.getD m (0, 0)).1 ≤ x.1 := fun x hx => by
                  obtain ⟨i, hi, rfl⟩ := List.mem_iff_getElem.1 hx
                  have := HM.out i (by omega)
                  rw [List.getD_eq_getElem?_getD (l := R) (i := i), List.getElem?_eq_getElem hi] at this
                  exact this
                have hsv := HI.out.1 _ hsm
                generalize R.getD m (0, 0) = s0 at *
                obtain ⟨lo, hi0⟩ := s0
                dsimp only at e0 e1 hlo hsv
                have HS := Lib.hid hsm; have HL := Lib.hid hlo; have HSV := Lib.hid hsv; clear hsm hlo hsv HM
                have hRr : RowS (w0.drewN nd) w.heap.size (.slice (some ⟨g, 0, none⟩) R.length cp) R := HR.out
                have hOr : RowS (w0.drewN nd) w.heap.size _ out := HO.out
                have K3 : Below w.heap.size w (w0.drewN nd) := below_drewN KO nd
                have e0 : (w0.drewN nd).cell? ⟨g, m * 2, none⟩ = some (.int .i64 lo) := e0
                have e1 : (w0.drewN nd).cell? ⟨g, m * 2 + 1, none⟩ = some (.int .i64 hi0) := e1
                have hg3 : g < (w0.drewN nd).heap.size := hg2
                clear HR HO KO ZO HGC hg2
                generalize w0.drewN nd = w3 at *
                have Z3 := K3.size
                have ng : g ≠ w3.heap.size := by omega
                have HR := Lib.hid hRr; have HO := Lib.hid hOr; clear hRr hOr
                go_wp2
                obtain ⟨sb, hsb⟩ : ∃ sb, sb = w3.heap.size := ⟨_, rfl⟩
                have bS : Blk (w3.alloc (.cells #[.int .i64 lo, .int .i64 hi0] 35)) sb 35 #[.int .i64 lo, .int .i64 hi0] := by rw [hsb]; exact Blk.new _ _ _
                have K4 : Below w.heap.size w (w3.alloc (.cells #[.int .i64 lo, .int .i64 hi0] 35)) := K3.alloc Z3 _
                have hR4 := HR.out.alloc (.cells #[.int .i64 lo, .int .i64 hi0] 35)
                have hO4 := HO.out.alloc (.cells #[.int .i64 lo, .int .i64 hi0] 35)
                have hgs : g < sb := by omega
                have hOs : ∀ k, u6.ownBlock = some k → k < sb := fun k hk => by have := HO.out.lt k hk; omega
                have hsbw : w.heap.size ≤ sb := by omega
                rw [← hsb]
                generalize (w3.alloc (.cells #[.int .i64 lo, .int .i64 hi0] 35)) = w4 at *
                have HR4 := Lib.hid hR4; have HO4 := Lib.hid hO4; have HOS := Lib.hid hOs
                clear hR4 hO4 hOs HR HO K3 Z3 e0 e1 hg3 ng hsb
                go_loopg [5, 10] (R.length + 1) (fun G v5 v10 wr => RUa w w.heap.size sb R out u6 lo hi0 G v5 v10 wr)
                case atStart => exact ⟨R, hi0, true, rfl, HR4.out, HO4.out, fun k hk => ⟨HD.out k hk, by simp [Value.ownBlock] at hk; omega⟩, rfl, bS, HSV.out, fun x hx => hx, fun t => anyIn_mem HS.out, (fun h => by cases h), .inr ⟨rfl, rfl, rfl⟩, Nat.le_refl _, K4⟩
                case round =>
                  obtain ⟨R', hi, a, rfl, hR', hO', hdis', rfl, bS', hvs, hsub, hin', hfin, hle, hle2, KA⟩ := hrel
                  clear bS K4 HR4 HO4
                  have ZA := KA.size
                  have HR' := Lib.hid hR'; have HO' := Lib.hid hO'; have HD' := Lib.hid hdis'; have HI' := Lib.hid (And.intro hvs (And.intro hsub (And.intro hin' (And.intro hfin (And.intro hle hle2)))))
                  clear hR' hO' hdis' hsub hin' hfin hle
                  have hsb5 : sb < wr.heap.size := bS'.lt
                  cases a with
                  | true =>
                    have hvl : ∀ x ∈ R', vS x.1 x.2 = true ∧ lo ≤ x.1 := fun x hx => ⟨HI.out.1 x (HI'.out.2.1 x hx), HL.out x (HI'.out.2.1 x hx)⟩
                    have HVL := Lib.hid hvl; clear hvl
                    go_wp2
                    generalize hw5 : wr = w5 at *
                    clear hw5
                    go_loopg [10, 11, 12] R'.length (fun G v10 v11 i wr => RUp w w.heap.size sb R' out u5 u6 lo hi G v10 v11 i wr)
                    case atStart => exact ⟨0, by omega, by omega, rfl, HR'.out, HO'.out, RowS.nil, rfl, bS', (fun k h => by cases h), KA⟩
                    case round =>
                      obtain ⟨j, hj, rfl, rfl, hRp, hOp, hLp, rfl, bSp, hdp, KP⟩ := hrel
                      clear KA ZA HR' HO' bS' hsb5
                      have ZP := KP.size
                      have hpl := pass_law lo hi hvs (R'.take j) (fun x hx => HVL.out x (List.mem_of_mem_take hx))
                      have HPL := Lib.hid hpl
                      have vsh := vS_true.1 hpl.2.1
                      have hll := hpl.2.2.2.1
                      clear hpl
                      rw [List.length_take] at hll
                      by_cases hlt : j < R'.length
                      · have gj : decide ((j : Int) < (R'.length : Int)) = true := decide_eq_true (by omega)
                        have wj : IntKind.i64.wrap ((j : Int) + 1) = ((j + 1 : Nat) : Int) := by rw [IntWalk.i64_in _ (by omega)]; omega
                        obtain ⟨g', cp', rfl, hg1', hg2', hgc'⟩ := RowS.form hRp (by omega)
                        obtain ⟨e0, e1⟩ := hgc' j hlt
                        clear hgc'
                        have hnx : passP hi (R'.take (j + 1)) = stepP (passP hi (R'.take j)) (R'.getD j (0, 0)) := by rw [take_snocC (0, 0) R' hlt, passP_snoc]
                        have HNX := Lib.hid hnx; clear hnx
                        generalize passP hi (R'.take j) = st at *
                        obtain ⟨h, a, lf⟩ := st
                        generalize R'.getD j (0, 0) = x at *
                        obtain ⟨x0, x1⟩ := x
                        dsimp only at e0 e1 bSp hLp hll vsh
                        have ngs : g' ≠ sb := (HD'.out g' (by simp [Value.ownBlock])).2
                        have wh : IntKind.i64.wrap (h + 1) = h + 1 := IntWalk.i64_in _ (by omega)
                        have lsb : sb < wr.heap.size := bSp.lt
                        have HDP := Lib.hid hdp; clear hdp
                        have HLP := Lib.hid hLp; have HRP := Lib.hid hRp; have HOP := Lib.hid hOp; clear hLp hRp hOp
                        obtain ⟨cS, fS, lS, -, -⟩ := Blk.facts bSp
                        by_cases hc : x0 ≤ h + 1
                        · have gc : decide (x0 ≤ h + 1) = true := decide_eq_true hc
                          have hst : passP hi (R'.take (j + 1)) = (max h x1, a || decide (h < x1), lf) := by rw [HNX.out]; unfold stepP; dsimp only; rw [if_pos hc]
                          have HST := Lib.hid hst; clear hst
                          clear wj
                          go_wp2_with fail
                          go_quiet (fail)
                          go_upto_region 26 with fail
                          go_cut [10] (fun s10 wx => s10 = .bool (a || decide (h < x1)) ∧ wr.grownBy wx (some sb) ∧ Blk wx sb 35 #[.int .i64 lo, .int .i64 h])
                          case first =>
                            cases a with
                            | true =>
                              go_wp2_with fail
                              go_quiet (fail)
                              go_wp2_with fail
                              go_meet
                              exact ⟨rfl, ⟨rfl, rfl, rfl, Nat.le_refl _, fun _ _ _ => rfl⟩, bSp⟩
                            | false =>
                              by_cases hx : h < x1
                              · have gx : decide (h < x1) = true := decide_eq_true hx
                                go_wp2_with fail
                                go_quiet (fail)
                                go_wp2_with fail
                                go_meet
                                exact ⟨by rw [gx]; rfl, ⟨rfl, rfl, rfl, Nat.le_refl _, fun _ _ _ => rfl⟩, bSp⟩
                              · have gx : decide (h < x1) = false := decide_eq_false hx
                                go_wp2_with fail
                                go_quiet (fail)
                                go_wp2_with fail
                                go_meet
                                exact ⟨by rw [gx]; rfl, ⟨rfl, rfl, rfl, Nat.le_refl _, fun _ _ _ => rfl⟩, bSp⟩
                          case rest =>
                            obtain ⟨rfl, hGc, bC⟩ := hcut
                            have wj : IntKind.i64.wrap ((j : Int) + 1) = ((j + 1 : Nat) : Int) := by rw [IntWalk.i64_in _ (by omega)]; omega
                            clear bSp cS fS lS
                            have e1c := (hGc.cell_far ⟨g', j * 2 + 1, none⟩ hg2' (by intro e; injection e with e; exact ngs e)).trans e1
                            have hg7 : g' < wc.heap.size := Nat.lt_of_lt_of_le hg2' hGc.size
                            go_upto_region 27 with fail
                            refine wp_region_calm (by kernel_rfl) (fun n us w' => wc.grownBy w' (some sb) ∧ (n = 0 → Blk w' sb 35 #[.int .i64 lo, .int .i64 h]) ∧ (n = 1 → Blk w' sb 35 #[.int .i64 lo, .int .i64 (max h x1)])) (fun _ _ => True) [(Is (.pointer (some ⟨sb, 1, none⟩))), (Is (.int .i64 h)), (Is (.slice (some ⟨g', 0, none⟩) R'.length cp')), (Is (.int .i64 (j : Int))), (Is (.pointer (some ⟨g', j * 2, none⟩))), (Is (.pointer (some ⟨g', j * 2 + 1, none⟩))), (Is (.int .i64 x1)), (Is (.int .i64 (max h x1))), (Is (.pointer (some ⟨sb, 1, none⟩))), (fun _ _ _ => True)] [[], [0], [], [], [2, 3], [4], [5], [1, 6], [], [8, 7]] [9] [] rfl (by kernel_rfl) (fun u => by (simp only [calmPut, Act.put, List.setIfInBounds_toArray, List.set_cons_zero, List.set_cons_succ, Nat.zero_add, Nat.reduceAdd]; rfl)) ?_ (calmKeep_cons keep_is' (calmKeep_cons keep_is' (calmKeep_cons keep_is' (calmKeep_cons keep_is' (calmKeep_cons keep_is' (calmKeep_cons keep_is' (calmKeep_cons keep_is' (calmKeep_cons keep_is' (calmKeep_cons keep_is' (calmKeep_cons keep_triv (calmKeep_nil))))))))))) ?_ ?_
                            · intro _
                              exact ⟨⟨rfl, rfl, rfl, Nat.le_refl _, fun _ _ _ => rfl⟩, fun _ => bC, fun h => absurd h (by decide)⟩
                            · skip
                              refine calmSteps_cons (fun u wq n hn hn2 hC hk K hK => ?_) ?_
                              · obtain ⟨hG, hA, hB⟩ := hC
                                clear hk
                                obtain rfl : n = 0 := Nat.le_zero.1 (hn2 0 9 rfl (by kernel_rfl))
                                have zS := (hA rfl).cell
                                go_simp
                                exact hK _ _ _ rfl ⟨hG, hA, hB⟩ trivial rfl
                              refine calmSteps_cons (fun u wq n hn hn2 hC hk K hK => ?_) ?_
                              · obtain ⟨hG, hA, hB⟩ := hC
                                simp only [calmKnown, List.getElem?_cons_zero, List.getElem?_cons_succ, and_true, Is, Pure, Option.some.injEq, List.getD_cons_zero, List.getD_cons_succ, List.map_cons, List.map_nil] at hk
                                have h0 := hk; clear hk
                                simp only [h0] at hK ⊢
                                have H0 := Lib.hid h0; clear h0
                                obtain rfl : n = 0 := Nat.le_zero.1 (hn2 0 9 rfl (by kernel_rfl))
                                have zS := (hA rfl).cell
                                go_simp
                                exact hK _ _ _ rfl ⟨hG, hA, hB⟩ trivial rfl
                              refine calmSteps_cons (fun u wq n hn hn2 hC hk K hK => ?_) ?_
                              · obtain ⟨hG, hA, hB⟩ := hC
                                clear hk
                                obtain rfl : n = 0 := Nat.le_zero.1 (hn2 0 9 rfl (by kernel_rfl))
                                have zS := (hA rfl).cell
                                go_simp
                                exact hK _ _ _ rfl ⟨hG, hA, hB⟩ trivial rfl
                              refine calmSteps_cons (fun u wq n hn hn2 hC hk K hK => ?_) ?_
                              · obtain ⟨hG, hA, hB⟩ := hC
                                clear hk
                                obtain rfl : n = 0 := Nat.le_zero.1 (hn2 0 9 rfl (by kernel_rfl))
                                have zS := (hA rfl).cell
                                go_simp
                                exact hK _ _ _ rfl ⟨hG, hA, hB⟩ trivial rfl
                              refine calmSteps_cons (fun u wq n hn hn2 hC hk K hK => ?_) ?_
                              · obtain ⟨hG, hA, hB⟩ := hC
                                simp only [calmKnown, List.getElem?_cons_zero, List.getElem?_cons_succ, and_true, Is, Pure, Option.some.injEq, List.getD_cons_zero, List.getD_cons_succ, List.map_cons, List.map_nil] at hk
                                obtain ⟨h2, h3⟩ := hk
                                simp only [h2, h3] at hK ⊢
                                have H2 := Lib.hid h2; clear h2; have H3 := Lib.hid h3; clear h3
                                obtain rfl : n = 0 := Nat.le_zero.1 (hn2 0 9 rfl (by kernel_rfl))
                                have zS := (hA rfl).cell
                                go_simp
                                exact hK _ _ _ rfl ⟨hG, hA, hB⟩ trivial rfl
                              refine calmSteps_cons (fun u wq n hn hn2 hC hk K hK => ?_) ?_
                              · obtain ⟨hG, hA, hB⟩ := hC
                                simp only [calmKnown, List.getElem?_cons_zero, List.getElem?_cons_succ, and_true, Is, Pure, Option.some.injEq, List.getD_cons_zero, List.getD_cons_succ, List.map_cons, List.map_nil] at hk
                                have h4 := hk; clear hk
                                simp only [h4] at hK ⊢
                                have H4 := Lib.hid h4; clear h4
                                obtain rfl : n = 0 := Nat.le_zero.1 (hn2 0 9 rfl (by kernel_rfl))
                                have zS := (hA rfl).cell
                                go_simp
                                exact hK _ _ _ rfl ⟨hG, hA, hB⟩ trivial rfl
                              refine calmSteps_cons (fun u wq n hn hn2 hC hk K hK => ?_) ?_
                              · obtain ⟨hG, hA, hB⟩ := hC
                                simp only [calmKnown, List.getElem?_cons_zero, List.getElem?_cons_succ, and_true, Is, Pure, Option.some.injEq, List.getD_cons_zero, List.getD_cons_succ, List.map_cons, List.map_nil] at hk
                                have h5 := hk; clear hk
                                simp only [h5] at hK ⊢
                                have H5 := Lib.hid h5; clear h5
                                obtain rfl : n = 0 := Nat.le_zero.1 (hn2 0 9 rfl (by kernel_rfl))
                                have zS := (hA rfl).cell
                                have y1 := (hG.cell_far ⟨g', j * 2 + 1, none⟩ hg7 (by intro e; injection e with e; exact ngs e)).trans e1c
                                go_simp
                                exact hK _ _ _ rfl ⟨hG, hA, hB⟩ trivial rfl
                              refine calmSteps_cons (fun u wq n hn hn2 hC hk K hK => ?_) ?_
                              · obtain ⟨hG, hA, hB⟩ := hC
                                simp only [calmKnown, List.getElem?_cons_zero, List.getElem?_cons_succ, and_true, Is, Pure, Option.some.injEq, List.getD_cons_zero, List.getD_cons_succ, List.map_cons, List.map_nil] at hk
                                obtain ⟨h1, h6⟩ := hk
                                simp only [h1, h6] at hK ⊢
                                have H1 := Lib.hid h1; clear h1; have H6 := Lib.hid h6; clear h6
                                obtain rfl : n = 0 := Nat.le_zero.1 (hn2 0 9 rfl (by kernel_rfl))
                                have zS := (hA rfl).cell
                                go_simp
                                exact hK _ _ _ rfl ⟨hG, hA, hB⟩ trivial rfl
                              refine calmSteps_cons (fun u wq n hn hn2 hC hk K hK => ?_) ?_
                              · obtain ⟨hG, hA, hB⟩ := hC
                                clear hk
                                obtain rfl : n = 0 := Nat.le_zero.1 (hn2 0 9 rfl (by kernel_rfl))
                                have zS := (hA rfl).cell
                                go_simp
                                exact hK _ _ _ rfl ⟨hG, hA, hB⟩ trivial rfl
                              refine calmSteps_cons (fun u wq n hn hn2 hC hk K hK => ?_) ?_
                              · obtain ⟨hG, hA, hB⟩ := hC
                                simp only [calmKnown, List.getElem?_cons_zero, List.getElem?_cons_succ, and_true, Is, Pure, Option.some.injEq, List.getD_cons_zero, List.getD_cons_succ, List.map_cons, List.map_nil] at hk
                                obtain ⟨h8, h7⟩ := hk
                                simp only [h8, h7] at hK ⊢
                                have H8 := Lib.hid h8; clear h8; have H7 := Lib.hid h7; clear h7
                                obtain rfl := hn 0 rfl
                                have hb0 := hA rfl
                                have zS := hb0.cell; have fS := hb0.frozen; have lS := hb0.lt
                                have hB2 : Blk _ _ _ _ := hb0.set_ 1 (.int .i64 (max h x1))
                                simp only [List.setIfInBounds_toArray, List.set_cons_zero, List.set_cons_succ] at hB2
                                go_simp
                                exact hK _ undef _ rfl ⟨grown_both hG (set_grown _ _ _ _), fun h => absurd h (by decide), fun _ => hB2⟩ trivial trivial
                              exact calmSteps_nil
                            · intro u w7 hC hF
                              obtain ⟨hG, -, hB⟩ := hC
                              have bS7 := hB rfl
                              have hG7 := grown_both hGc hG
                              clear hF hB hG hGc bC e1c hg7 e0 e1
                              have K7 : Below w.heap.size w w7 := KP.grown hG7 ZP (fun k hk => by injection hk with hk; omega)
                              have hR7 := HRP.out.kept hG7 (fun k hk e => (HD'.out k hk).2 (by injection e))
                              have hO7 := HOP.out.kept hG7 (fun k hk e => by have := HOS.out k hk; injection e with e; omega)
                              have hL7 := HLP.out.kept hG7 (fun k hk e => (HDP.out k hk).2.2 (by injection e))
                              have R7 := Lib.hid hR7; have O7 := Lib.hid hO7; have L7 := Lib.hid hL7; clear hR7 hO7 hL7
                              go_wp2
                              go_roundg (R'.length - (j + 1))
                              case measure => omega
                              case rel => exact ⟨j + 1, by omega, by omega, by go_num, R7.out, O7.out, by rw [HST.out]; exact L7.out, by rw [HST.out], by rw [HST.out]; exact bS7, HDP.out, K7⟩
                        · have gc : decide (x0 ≤ h + 1) = false := decide_eq_false hc
                          have hst : passP hi (R'.take (j + 1)) = (h, a, lf ++ [(x0, x1)]) := by rw [HNX.out]; unfold stepP; dsimp only; rw [if_neg hc]
                          have HST := Lib.hid hst; clear hst
                          obtain ⟨i0, hif, hz0, hz1, hz2⟩ := info_parts infoSpan
                          go_wp2_with fail
                          go_quiet (fail)
                          go_wp2_with (at_builtin; refine wpList_append_lies _ rfl _ _ 43 rfl w.heap.size 35 i0 (.agg #[.int .i64 0, .int .i64 0]) 2 16 Try.underlying43 hif hz0 hz1 hz2 rfl (by decide) _ lf.length (cellsS lf) rfl (RowS.alloc (RowS.drewN HLP.out nq) _) ⟨wr.heap.size, 0, none⟩ 1 1 [.int .i64 x0, .int .i64 x1] rfl rfl (World.news_of_block (t := 35) (fr := (0, 0)) (Blk.new _ _ _)) ?c2 (by decide) ?c3 ?c4 ?c5 _ rfl ?_)
                          case c2 => first | exact ⟨rfl, rfl⟩ | (intro u hu; simp at hu; rcases hu with rfl | rfl <;> rfl)
                          case c3 => unfold maxLen; omega
                          case c4 => omega
                          case c5 => first | omega | (simp; omega)
                          intro g9 cp9 w7 hown hgrow hlie hglt
                          have hsz9 : wr.heap.size ≤ g9 ∨ u11.ownBlock = some g9 := by rcases hlie with e | e; (exact .inr e); (left; first | omega | (simp at e; omega))
                          have K7 : Below w.heap.size w w7 := ((below_drewN KP nq).alloc (by show w.heap.size ≤ wr.heap.size; omega) _).grown hgrow (by simp; omega) (fun k hk => (RowS.lt HLP.out k hk).1)
                          have hR7 := (RowS.alloc (RowS.drewN HRP.out nq) (.cells #[.int .i64 x0, .int .i64 x1] 35)).kept hgrow (fun k hk e => (HDP.out k e.symm).1 hk)
                          have hO7 := (RowS.alloc (RowS.drewN HOP.out nq) (.cells #[.int .i64 x0, .int .i64 x1] 35)).kept hgrow (fun k hk e => (HDP.out k e.symm).2.1 hk)
                          have bS7 : Blk w7 sb 35 #[.int .i64 lo, .int .i64 h] := (hgrow.block sb (by simp; omega) (fun e => (HDP.out sb e.symm).2.2 rfl)).trans (Blk.alloc (w := wr.drewN nq) bSp _)
                          have hL7 : RowS w7 w.heap.size (.slice (some ⟨g9, 0, none⟩) (lf.length + 1) cp9) (lf ++ [(x0, x1)]) := by
                            unfold RowS
                            rw [List.length_append, List.length_singleton, cellsS_snoc]; exact hown
                          have hd9 : ∀ k, (Value.slice (some ⟨g9, 0, none⟩) (lf.length + 1) cp9).ownBlock = some k → (Value.slice (some ⟨g', 0, none⟩) R'.length cp').ownBlock ≠ some k ∧ u6.ownBlock ≠ some k ∧ k ≠ sb := fun k hk => by
                            obtain rfl : g9 = k := by simpa [Value.ownBlock] using hk
                            rcases hsz9 with e | e
                            · refine ⟨fun h => ?_, fun h => ?_, by omega⟩
                              · have := (RowS.lt HRP.out _ h).2; omega
                              · have := (RowS.lt HOP.out _ h).2; omega
                            · exact HDP.out _ e
                          clear hown hgrow hlie hglt hsz9 e0 e1 bSp cS fS lS
                          have R7 := Lib.hid hR7; have O7 := Lib.hid hO7; have L7 := Lib.hid hL7; have D9 := Lib.hid hd9; clear hR7 hO7 hL7 hd9
                          go_wp2
                          go_roundg (R'.length - (j + 1))
                          case measure => omega
                          case rel => exact ⟨j + 1, by omega, by omega, by go_num, R7.out, O7.out, by rw [HST.out]; exact L7.out, by rw [HST.out], by rw [HST.out]; exact bS7, D9.out, K7⟩
                      · obtain rfl : R'.length = j := by omega
                        have gj : decide ((R'.length : Int) < (R'.length : Int)) = false := decide_eq_false (by omega)
                        rw [List.take_length] at hLp bSp HPL ⊢
                        have hpl := HPL.out
                        generalize passP hi R' = st at *
                        obtain ⟨h, a, lf⟩ := st
                        dsimp only at bSp hLp hpl
                        obtain ⟨q1, q2, q3, q4, q5, q6, q7⟩ := hpl
                        have HQ := Lib.hid (And.intro q2 (And.intro q3 (And.intro q5 (And.intro q6 q7))))
                        have HDP := Lib.hid hdp; have HLP := Lib.hid hLp; have HRP := Lib.hid hRp; have HOP := Lib.hid hOp; clear hLp hRp hOp hdp q2 q3 q5 q6 q7 HPL
                        obtain ⟨A5, c5, rfl⟩ := RowS.len HRP.out
                        obtain ⟨A11, c11, rfl⟩ := RowS.len HLP.out
                        go_wp2
                        go_roundg (lf.length + a.toNat)
                        case measure =>
                          have h6 := HQ.out.2.2.2.1
                          cases a with
                          | true => have := h6 (.inl rfl); simp; omega
                          | false => simp; omega
                        case rel =>
                          refine ⟨lf, h, a, rfl, HLP.out, HOP.out, fun k hk => ⟨(HDP.out k hk).2.1, (HDP.out k hk).2.2⟩, rfl, bSp, HQ.out.1, fun x hx => HI'.out.2.1 x (HQ.out.2.1 x hx), fun t => (HQ.out.2.2.2.2 t).trans (HI'.out.2.2.1 t), fun ha x hx => by have := HQ.out.2.2.1 ha; have := this.2 x hx; omega, .inl ?_, by have := HI'.out.2.2.2.2.2; omega, KP⟩
                          have h6 := HQ.out.2.2.2.1
                          rcases HI'.out.2.2.2.2.1 with e | ⟨-, e1, e2⟩
                          · omega
                          · have hv0 := vS_true.1 HSV.out
                            have := h6 (.inr ⟨(lo, hi0), by rw [e1]; exact HS.out, by simp only; omega⟩)
                            rw [e1] at this; exact this
                  | false =>
                    obtain ⟨i0, hif, hz0, hz1, hz2⟩ := info_parts infoSpan
                    have hlt' : R'.length < R.length := by rcases HI'.out.2.2.2.2.1 with e | ⟨e, _⟩; (exact e); (cases e)
                    obtain ⟨cS, fS, lS, -, -⟩ := Blk.facts bS'
                    go_wp2_with (at_builtin; refine wpList_append_lies _ rfl _ _ 43 rfl w.heap.size 35 i0 (.agg #[.int .i64 0, .int .i64 0]) 2 16 Try.underlying43 hif hz0 hz1 hz2 rfl (by decide) _ out.length (cellsS out) rfl (RowS.alloc HO'.out _) ⟨wr.heap.size, 0, none⟩ 1 1 [.int .i64 lo, .int .i64 hi] rfl rfl (World.news_of_block (t := 35) (fr := (0, 0)) (Blk.new _ _ _)) ?c2 (by decide) ?c3 ?c4 ?c5 _ rfl ?_)
                    case c2 => first | exact ⟨rfl, rfl⟩ | (intro u hu; simp at hu; rcases hu with rfl | rfl <;> rfl)
                    case c3 => unfold maxLen; omega
                    case c4 => omega
                    case c5 => first | omega | (simp; omega)
                    intro g9 cp9 w7 hown hgrow hlie hglt
                    have hsz9 : wr.heap.size ≤ g9 ∨ u6.ownBlock = some g9 := by rcases hlie with e | e; (exact .inr e); (left; first | omega | (simp at e; omega))
                    have K7 : Below w.heap.size w w7 := (KA.alloc ZA _).grown hgrow (by simp; omega) (fun k hk => (RowS.lt HO'.out k hk).1)
                    have hR7 := (RowS.alloc HR'.out (.cells #[.int .i64 lo, .int .i64 hi] 35)).kept hgrow (fun k hk e => (HD'.out k hk).1 e.symm)
                    have hO7 : RowS w7 w.heap.size (.slice (some ⟨g9, 0, none⟩) (out.length + 1) cp9) (out ++ [(lo, hi)]) := by
                      unfold RowS
                      rw [List.length_append, List.length_singleton, cellsS_snoc]; exact hown
                    have hd9 : ∀ k, u5.ownBlock = some k → (Value.slice (some ⟨g9, 0, none⟩) (out.length + 1) cp9).ownBlock ≠ some k := fun k hk he => by
                      obtain rfl : g9 = k := by simpa [Value.ownBlock] using he
                      rcases hsz9 with e | e
                      · have := (RowS.lt HR'.out _ hk).2; omega
                      · exact (HD'.out _ hk).1 e
                    clear hown hgrow hlie hglt hsz9 bS' cS fS lS
                    have R7 := Lib.hid hR7; have O7 := Lib.hid hO7; have D9 := Lib.hid hd9; clear hR7 hO7 hd9
                    go_wp2
                    go_roundg R'.length
                    case measure => omega
                    case rel =>
                      obtain ⟨-, p2, p3, p4, -, -⟩ := HI'.out
                      obtain ⟨i1, i2, i3, i4, i5⟩ := HI.out
                      refine ⟨R', out ++ [(lo, hi)], rfl, R7.out, O7.out, D9.out, by rw [List.length_append, List.length_singleton]; omega, fun x hx => i1 x (p2 x hx), fun x hx => ?_, gaps_snoc i3 (fun o ho => by have := i4 o ho _ HS.out; simpa using this), fun o ho x hx => ?_, fun t => ?_, K7⟩
                      · rcases List.mem_append.1 hx with hx | hx
                        · exact i2 x hx
                        · rw [List.mem_singleton.1 hx]; exact hvs
                      · rcases List.mem_append.1 ho with ho | ho
                        · exact i4 o ho x (p2 x hx)
                        · rw [List.mem_singleton.1 ho]; have := p4 (by simp) x hx; simp only; omega
                      · rw [anyIn_app, anyIn_app, Bool.or_assoc, show anyIn t [(lo, hi)] = inS t (lo, hi) by simp [anyIn], p3 t, ← anyIn_app]; exact i5 t
          · have hn0 : R = [] := List.length_eq_zero_iff.1 (by omega)
            subst hn0
            obtain ⟨A9, c9, rfl⟩ := RowS.len hO
            obtain ⟨A5, c5, rfl⟩ := RowS.len hR
            have hsp := spans_of_row hO (by omega)
            obtain ⟨i1, i2, i3, i4, i5⟩ := HI.out
            have HF := Lib.hid (And.intro hsp (And.intro i2 (And.intro i3 i5)))
            clear hR hsp i1 i2 i3 i4 i5 HO
            have gk : decide (0 < ((([] : List (Int × Int)).length : Nat) : Int)) = false := by decide
            go_wp2
            go_ret2
            exact ⟨KO, .inr (.inr ⟨HOK.out, by omega, out, A9, c9, rfl, HF.out.1, by simp at hlen; omega, HF.out.2.2.1, HF.out.2.1, fun t => by have := HF.out.2.2.2 t; rwa [List.append_nil] at this⟩)⟩
end Go.Proofs.Ytlfkkfdolnkjfaa
