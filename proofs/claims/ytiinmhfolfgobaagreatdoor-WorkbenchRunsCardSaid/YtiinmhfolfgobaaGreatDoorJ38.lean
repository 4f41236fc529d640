/- Lemmas. -/
import Derived.Lib.AppendZeros
import Derived.Test.YtiinmhfolfgobaaGreatDoorJ35
set_option linter.unusedVariables false
set_option linter.unusedSimpArgs false
namespace Go.Proofs.YtiinmhfolfgobaaGreatDoor
open Go.RowKit
set_option maxHeartbeats 8000000
set_option maxRecDepth 100000
def ByRow (w : World) (base : Nat) (v : Value) (bs : List Int) : Prop := w.ownsRow base 5 1 v bs.length (bcells bs)
theorem ByRow.kept {w w' : World} {base : Nat} {v : Value} {bs : List Int} {X : Option Nat} (h : ByRow w base v bs) (hg : w.grownBy w' X) (hn : v.ownBlock = none ∨ v.ownBlock ≠ X) : ByRow w' base v bs := World.ownsRow.kept h hg hn
theorem ByRow.below {w w' : World} {base : Nat} {v : Value} {bs : List Int} (h : ByRow w base v bs) (hb : Below w.heap.size w w') : ByRow w' base v bs :=
 h.kept (⟨hb.os, hb.tape, hb.output, hb.size, fun k hk _ => hb.block k hk⟩ : w.grownBy w' none) (by cases v.ownBlock <;> simp)
theorem ByRow.own {w : World} {base : Nat} {v : Value} {bs : List Int} (h : ByRow w base v bs) : ∀ k, v.ownBlock = some k → base ≤ k ∧ k < w.heap.size := World.ownsRow.lt h
theorem ByRow.form {w : World} {base : Nat} {v : Value} {bs : List Int} (h : ByRow w base v bs) (h0 : 0 < bs.length) : ∃ g cap, v = .slice (some ⟨g, 0, none⟩) bs.length cap ∧ base ≤ g ∧ g < w.heap.size ∧ ByAt w g bs := by
 obtain ⟨g, cap, rfl, h1, h2⟩ := World.ownsRow.form h h0
 obtain ⟨g', e, -, -, h5⟩ := own_bytes h rfl h0
 injection e with e; injection e with e
 subst e
 exact ⟨g, cap, rfl, h1, h2, h5⟩
def PartsAt (w : World) (A : Option Addr) (ps : List (List Int)) : Prop := ∃ g off, A = some ⟨g, off, none⟩ ∧ g < w.heap.size ∧ ∀ j, j < ps.length → ∃ h o c, w.cell? ⟨g, off + j, none⟩ = some (.slice (some ⟨h, o, none⟩) (ps.getD j []).length c) ∧ BySl w h o (ps.getD j [])
theorem PartsAt.below {w w' : World} {A : Option Addr} {ps : List (List Int)} (h : PartsAt w A ps) (hb : Below w.heap.size w w') : PartsAt w' A ps := by
 obtain ⟨g, off, rfl, hg, hc⟩ := h
 refine ⟨g, off, rfl, Nat.lt_of_lt_of_le hg hb.size, fun j hj => ?_⟩
 obtain ⟨h, o, c, h1, h2⟩ := hc j hj
 exact ⟨h, o, c, cell_below hb h1, h2.below hb⟩
def JoinR (w : World) (bs : List Int) (e : Ending) (w' : World) : Prop := ∃ g cap, e = .returned (.slice (some ⟨g, 0, none⟩) bs.length cap) ∧ w.heap.size ≤ g ∧ g < w'.heap.size ∧ ByRow w' w.heap.size (.slice (some ⟨g, 0, none⟩) bs.length cap) bs ∧ Below w.heap.size w w'
def catS (ps : List (List Int)) (q : Nat) : List Int := (ps.take q).flatten
theorem catS_succ (ps : List (List Int)) (q : Nat) (h : q < ps.length) : catS ps (q + 1) = catS ps q ++ ps.getD q [] := by
 unfold catS
 rw [List.take_add_one, Y9 h, List.flatten_append, Y8, Y9 h]
 simp
theorem catS_le (ps : List (List Int)) (q : Nat) : (catS ps q).length ≤ ps.flatten.length := by
 unfold catS
 conv => rhs; rw [← List.take_append_drop q ps, List.flatten_append, lla]
 omega
theorem news_bytes {w : World} {h o : Nat} {bs : List Int} (hs : BySl w h o bs) : ∀ j u, (bcells bs)[j]? = some u → w.cell? ((⟨h, o, none⟩ : Addr).add j) = some u := by
 intro j u hj
 have hl : j < bs.length := by have := (List.getElem?_eq_some_iff.1 hj).1; rwa [bcells_length] at this
 rw [bcells_get bs j hl] at hj
 rw [show (⟨h, o, none⟩ : Addr).add j = ⟨h, o + j, none⟩ from by simp [Addr.add]]
 exact (hs.2 j hl).trans hj
theorem one_bytes (bs : List Int) : ∀ u ∈ bcells bs, u.oneCell' = true := by
 intro u hu
 simp only [bcells, List.mem_map] at hu
 obtain ⟨x, -, rfl⟩ := hu
 rfl
def JnRel (w : World) (ps : List (List Int)) (G : Nat) (v i : Value) (wr : World) : Prop := ∃ q : Nat, q ≤ ps.length ∧ G = ps.length - q ∧ i = .int .i64 q ∧ ByRow wr w.heap.size v (catS ps q) ∧ (∃ A n c, v = .slice A n c) ∧ Below w.heap.size w wr
theorem rjoin_any (LA : Option Addr) (ln lcap : Nat) (ps : List (List Int)) (hln : ps.length = ln) (hp : ∀ p ∈ ps, 0 < p.length) (h0 : 0 < ps.length) (bs : List Int) (hbs : ps.flatten = bs) (hsz : bs.length ≤ 1000) (hp2 : ps.length ≤ 1000) (w : World) (h : PartsAt w LA ps) :
  Calls Tryz.prog 155 #[.slice LA ln lcap] w (JoinR w bs) := by
 have HPA := Yh h; clear h
 subst hln
 have hpos : 0 < bs.length := by
  rw [← hbs]
  cases ps with
  | nil => simp at h0
  | cons p l => rw [List.flatten_cons, lla]; have := hp p Ys; omega
 have hle9 : ∀ q, (catS ps q).length ≤ bs.length := fun q => hbs ▸ catS_le ps q
 have HBS := Yh hbs; have HLE := Yh hle9; clear hbs hle9
 obtain ⟨i0, hif, hz0, hz1, hz2⟩ := info_parts infoU8
 go_enter Tryz.func155, Tryz.ntmps155
 go_upto_region 1 with fail
 go_cut [3] (fun v wx => (∃ A n c, v = .slice A n c) ∧ ByRow wx w.heap.size v [] ∧ Below w.heap.size w wx)
 case first =>
  go_wp2_with fail
  go_meet
  exact ⟨⟨_, _, _, rfl⟩, (by first | exact World.ownsRow_made w #[] 0 (Nat.le_refl _) Yd (by rfl) | exact World.ownsRow_nil _ _ _ _), bl0⟩
 case rest =>
  obtain ⟨⟨A0, n0, c0, rfl⟩, hrow, KC⟩ := hcut
  have HR := Yh hrow; have HC := Yh KC; have ZC := KC.size
  clear hrow KC
  go_wp2
  go_loopg [3, 4] ps.length (fun G v i wr => JnRel w ps G v i wr)
  case atStart => exact ⟨0, Yo, Yo, rfl, HR.out, ⟨_, _, _, rfl⟩, HC.out⟩
  case round =>
   obtain ⟨q, hq, rfl, rfl, hrow, ⟨A, n, c, rfl⟩, KR⟩ := hrel
   have ZR := KR.size
   clear HR HC
   have HROW := Yh hrow; have HKR := Yh KR
   have HPR := Yh (HPA.out.below KR)
   clear hrow KR
   by_cases hlt : q < ps.length
   ·have gq : decide ((q : Int) < (ps.length : Int)) = true := Y2
    have gqn : decide (q < ps.length) = true := decide_eq_true hlt
    have wq : IntKind.i64.wrap ((q : Int) + 1) = ((q + 1 : Nat) : Int) := Y4
    obtain ⟨g, off, rfl, hg, hc⟩ := HPR.out
    obtain ⟨h, o, c', hcell, hsl⟩ := hc q hlt
    have hpl : 0 < (ps.getD q []).length := hp _ (by rw [Y8, Y9 hlt]; exact List.getElem_mem _)
    have hst := catS_succ ps q hlt
    have hle := HLE.out (q + 1)
    rw [hst, lla] at hle
    clear hc HPR
    generalize ps.getD q [] = p at *
    have hlt0 := HROW.out.own
    have HST := Yh hst; have HSL := Yh hsl; clear hst hsl
    generalize hv : (Value.slice A n c) = v at *
    have HV := Yh hv; clear hv
    go_wp2_with (at_builtin; refine wpList_append_lies _ rfl _ _ 72 rfl w.heap.size 5 i0 (.int .u8 0) 1 1 Tryz.underlying72 hif hz0 hz1 hz2 rfl Yd v (catS ps q).length (bcells (catS ps q)) rfl HROW.out ⟨h, o, none⟩ p.length c' (bcells p) rfl (by rw [bcells_length, Nat.mul_one]) (news_bytes HSL.out) (one_bytes p) hpl ?c3 ?c4 ?c5 _ rfl ?_)
    case c3 => unfold maxLen; omega
    case c4 => omega
    case c5 => first | omega | (simp; omega)
    intro g9 cp9 w7 hown hgrow hlie hglt
    have K7 : Below w.heap.size w w7 := HKR.out.grown hgrow Yo (fun k hk => (hlt0 k hk).1)
    have hr7 : ByRow w7 w.heap.size (.slice (some ⟨g9, 0, none⟩) ((catS ps q).length + p.length) cp9) (catS ps (q + 1)) := by
     unfold ByRow
     rw [HST.out, lla, bcells_app]; exact hown
    have R7 := Yh hr7
    clear hown hgrow hlie hglt hr7
    go_wp2
    go_roundg (ps.length - (q + 1))
    case measure => omega
    case rel => exact ⟨q + 1, Yo, Yo, by go_num, R7.out, ⟨_, _, _, rfl⟩, K7⟩
   ·obtain rfl : q = ps.length := by omega
    have gq : decide ((ps.length : Int) < (ps.length : Int)) = false := Y3
    have hall : catS ps ps.length = bs := by unfold catS; rw [List.take_length]; exact HBS.out
    have hrow := HROW.out
    rw [hall] at hrow
    obtain ⟨g9, cp9, e9, hg9, hl9, -⟩ := hrow.form hpos
    obtain ⟨rfl, rfl, rfl⟩ : A = some ⟨g9, 0, none⟩ ∧ n = bs.length ∧ c = cp9 := by injection e9 with a b c; exact ⟨a, b, c⟩
    have HRW := Yh hrow; clear hrow HROW hall
    go_wp2
    go_ret
    exact ⟨g9, c, rfl, hg9, hl9, HRW.out, HKR.out⟩
theorem ByRow.mono {w : World} {base base' : Nat} {v : Value} {bs : List Int} (h : ByRow w base v bs) (hb : base' ≤ base) : ByRow w base' v bs := by
 refine ⟨h.1, ?_⟩
 rcases h.2 with h2 | ⟨g, cap, cur, h1, h2, h3⟩
 ·exact .inl h2
 ·exact .inr ⟨g, cap, cur, h1, Yo, h3⟩
def gtS (bs : List Int) : Nat → Int
 | 0 => 0
 | q + 1 => bits .or .u64 (IntKind.u64.wrap (gtS bs q * 256)) (bs.getD q 0)
theorem BySl.tail {w : World} {g off : Nat} {bs : List Int} (h : BySl w g off bs) (k : Nat) (hk : k ≤ bs.length) : BySl w g (off + k) (bs.drop k) :=
 ⟨h.1, fun j hj => by
  rw [List.length_drop] at hj
  have := h.2 (k + j) Yo
  rw [show off + k + j = off + (k + j) by omega, this, Y8, Y8, List.getElem?_drop]⟩
theorem BySl.head {w : World} {g off : Nat} {bs : List Int} (h : BySl w g off bs) (k : Nat) (hk : k ≤ bs.length) : BySl w g off (bs.take k) :=
 ⟨h.1, fun j hj => by
  rw [List.length_take] at hj
  rw [h.2 j Yo, Y8, Y8, List.getElem?_take, if_pos Yo]⟩
def GtRel (w : World) (bs : List Int) (G : Nat) (v i : Value) (wr : World) : Prop := ∃ q : Nat, q ≤ 8 ∧ G = 8 - q ∧ i = .int .i64 q ∧ v = .int .u64 (gtS bs q) ∧ Below w.heap.size w wr
theorem rget_any (g off c : Nat) (bs : List Int) (hl : bs.length = 8) (hb : ∀ x ∈ bs, 0 ≤ x ∧ x < 256) (w : World) (h : BySl w g off bs) :
  Calls Tryz.prog 190 #[.slice (some ⟨g, off, none⟩) 8 c] w (RB w (.int .u64 (gtS bs 8))) := by
 have HB := Yh h; clear h
 obtain ⟨G8, hG8⟩ : ∃ x, gtS bs 8 = x := ⟨_, rfl⟩
 rw [hG8]
 have HG8 := Yh (show ∃ n, n = 8 ∧ gtS bs n = G8 from ⟨8, rfl, hG8⟩); clear hG8
 go_enter Tryz.func190, Tryz.ntmps190
 go_wp2
 go_loopg [3, 4] 8 (fun G v i wr => GtRel w bs G v i wr)
 case atStart => exact ⟨0, Yo, Yo, rfl, rfl, Below.refl _ _⟩
 case round =>
  obtain ⟨q, hq, rfl, rfl, rfl, KR⟩ := hrel
  have HKR := Yh KR
  have hB := HB.out.below KR
  clear KR
  by_cases hlt : q < 8
  ·have gq : decide ((q : Int) < 8) = true := Y2
   have gqn : decide (q < 8) = true := decide_eq_true hlt
   have wq : IntKind.i64.wrap ((q : Int) + 1) = ((q + 1 : Nat) : Int) := Y4
   have hc := hB.2 q Yo
   have hg := hB.1
   have hx := hb (bs.getD q 0) (by rw [Y8, Y9 Yo]; exact List.getElem_mem _)
   have hst : gtS bs (q + 1) = bits .or .u64 (IntKind.u64.wrap (gtS bs q * 256)) (bs.getD q 0) := rfl
   generalize bs.getD q 0 = x at *
   generalize gtS bs q = y at *
   have wx : IntKind.u64.wrap x = x := by simp [IntKind.wrap, IntKind.bits, IntKind.signed]; omega
   have wx2 : x % 18446744073709551616 = x := Int.emod_eq_of_lt hx.1 Yo
   have HST := Yh hst; clear hst hB
   go_wp2
   go_roundg (8 - (q + 1))
   case measure => omega
   case rel => exact ⟨q + 1, Yo, Yo, by go_num, by rw [HST.out], HKR.out⟩
  ·obtain rfl : q = 8 := by omega
   have gq : decide (((8 : Nat) : Int) < 8) = false := by decide
   have gq2 : decide ((8 : Int) < 8) = false := by decide
   clear hB
   have e8 : gtS bs 8 = G8 := by obtain ⟨n, rfl, h⟩ := HG8.out; exact h
   rw [e8]
   clear e8
   go_wp2
   go_ret
   exact ⟨rfl, HKR.out⟩
theorem oget_any (g off c : Nat) (bs : List Int) (hl : bs.length = 8) (hb : ∀ x ∈ bs, 0 ≤ x ∧ x < 256) (w : World) (h : BySl w g off bs) :
  Calls Tryz.prog 206 #[.slice (some ⟨g, off, none⟩) 8 c] w (RB w (.int .u64 (gtS bs 8))) := by
 have HB := Yh h; clear h
 obtain ⟨G8, hG8⟩ : ∃ x, gtS bs 8 = x := ⟨_, rfl⟩
 rw [hG8]
 have HG8 := Yh (show ∃ n, n = 8 ∧ gtS bs n = G8 from ⟨8, rfl, hG8⟩); clear hG8
 go_enter Tryz.func206, Tryz.ntmps206
 go_wp2
 go_loopg [3, 13] 8 (fun G v i wr => GtRel w bs G v i wr)
 case atStart => exact ⟨0, Yo, Yo, rfl, rfl, Below.refl _ _⟩
 case round =>
  obtain ⟨q, hq, rfl, rfl, rfl, KR⟩ := hrel
  have HKR := Yh KR
  have hB := HB.out.below KR
  clear KR
  by_cases hlt : q < 8
  ·have gq : decide ((q : Int) < 8) = true := Y2
   have gqn : decide (q < 8) = true := decide_eq_true hlt
   have wq : IntKind.i64.wrap ((q : Int) + 1) = ((q + 1 : Nat) : Int) := Y4
   have hc := hB.2 q Yo
   have hg := hB.1
   have hx := hb (bs.getD q 0) (by rw [Y8, Y9 Yo]; exact List.getElem_mem _)
   have hst : gtS bs (q + 1) = bits .or .u64 (IntKind.u64.wrap (gtS bs q * 256)) (bs.getD q 0) := rfl
   generalize bs.getD q 0 = x at *
   generalize gtS bs q = y at *
   have wx : IntKind.u64.wrap x = x := by simp [IntKind.wrap, IntKind.bits, IntKind.signed]; omega
   have wx2 : x % 18446744073709551616 = x := Int.emod_eq_of_lt hx.1 Yo
   have HST := Yh hst; clear hst hB
   go_wp2
   go_roundg (8 - (q + 1))
   case measure => omega
   case rel => exact ⟨q + 1, Yo, Yo, by go_num, by rw [HST.out], HKR.out⟩
  ·obtain rfl : q = 8 := by omega
   have gq : decide (((8 : Nat) : Int) < 8) = false := by decide
   have gq2 : decide ((8 : Int) < 8) = false := by decide
   clear hB
   have e8 : gtS bs 8 = G8 := by obtain ⟨n, rfl, h⟩ := HG8.out; exact h
   rw [e8]
   clear e8
   go_wp2
   go_ret
   exact ⟨rfl, HKR.out⟩
end Go.Proofs.YtiinmhfolfgobaaGreatDoor
