/- Texts joined: Oct2, Oct3 -/
import Derived.Lib.AppendZeros
import Derived.Test.YtlnboheahbfgfaaGreatJ13
namespace Go.Proofs.YtlnboheahbfgfaaGreat
open Go.RowKit
set_option linter.unusedSimpArgs false
set_option linter.unusedVariables false

def ByRow (w : World) (base : Nat) (v : Value) (bs : List Int) : Prop := w.ownsRow base 5 1 v bs.length (bcells bs)
theorem ByRow.nil (w : World) (base : Nat) : ByRow w base (.slice none 0 0) [] := World.ownsRow_nil _ _ _ _
theorem ByRow.kept {w w' : World} {base : Nat} {v : Value} {bs : List Int} {X : Option Nat} (h : ByRow w base v bs) (hg : w.grownBy w' X) (hn : v.ownBlock = none ∨ v.ownBlock ≠ X) : ByRow w' base v bs := World.ownsRow.kept h hg hn
theorem ByRow.below {w w' : World} {base : Nat} {v : Value} {bs : List Int} (h : ByRow w base v bs) (hb : Below w.heap.size w w') : ByRow w' base v bs :=
  h.kept (⟨hb.os, hb.tape, hb.output, hb.size, fun k hk _ => hb.block k hk⟩ : w.grownBy w' none) (by cases v.ownBlock <;> simp)
theorem ByRow.own {w : World} {base : Nat} {v : Value} {bs : List Int} (h : ByRow w base v bs) : ∀ k, v.ownBlock = some k → base ≤ k ∧ k < w.heap.size := World.ownsRow.lt h
theorem ByRow.form {w : World} {base : Nat} {v : Value} {bs : List Int} (h : ByRow w base v bs) (h0 : 0 < bs.length) : ∃ g cap, v = .slice (some ⟨g, 0, none⟩) bs.length cap ∧ base ≤ g ∧ g < w.heap.size ∧ ByAt w g bs := by
  obtain ⟨g, cap, rfl, h1, h2⟩ := World.ownsRow.form h h0
  obtain ⟨g', e, -, -, h5⟩ := own_bytes h rfl h0
  injection e with e; injection e with e
  subst e
  exact ⟨g, cap, rfl, h1, h2, h5⟩
/-- The lists that are to be joined. -/
def PartsAt (w : World) (A : Option Addr) (ps : List (List Int)) : Prop := ∃ g off, A = some ⟨g, off, none⟩ ∧ g < w.heap.size ∧ ∀ j, j < ps.length → ∃ h o c, w.cell? ⟨g, off + j, none⟩ = some (.slice (some ⟨h, o, none⟩) (ps.getD j []).length c) ∧ BySl w h o (ps.getD j [])
theorem PartsAt.below {w w' : World} {A : Option Addr} {ps : List (List Int)} (h : PartsAt w A ps) (hb : Below w.heap.size w w') : PartsAt w' A ps := by
  obtain ⟨g, off, rfl, hg, hc⟩ := h
  refine ⟨g, off, rfl, Nat.lt_of_lt_of_le hg hb.size, fun j hj => ?_⟩
  obtain ⟨h, o, c, h1, h2⟩ := hc j hj
  exact ⟨h, o, c, cell_below hb h1, h2.below hb⟩
def JoinR (w : World) (bs : List Int) (e : Ending) (w' : World) : Prop := ∃ g cap, e = .returned (.slice (some ⟨g, 0, none⟩) bs.length cap) ∧ w.heap.size ≤ g ∧ g < w'.heap.size ∧ ByRow w' w.heap.size (.slice (some ⟨g, 0, none⟩) bs.length cap) bs ∧ Below w.heap.size w w'
def catS (ps : List (List Int)) (q : Nat) : List Int := (ps.take q).flatten
theorem catS_succ (ps : List (List Int)) (q : Nat) (h : q < ps.length) : catS ps (q + 1) = catS ps q ++ ps.getD q [] := by
  unfold catS
  rw [List.take_add_one, List.getElem?_eq_getElem h, List.flatten_append, List.getD_eq_getElem?_getD, List.getElem?_eq_getElem h]
  simp
theorem catS_le (ps : List (List Int)) (q : Nat) : (catS ps q).length ≤ ps.flatten.length := by
  unfold catS
  conv => rhs; rw [← List.take_append_drop q ps, List.flatten_append, List.length_append]
  omega
theorem news_bytes {w : World} {h o : Nat} {bs : List Int} (hs : BySl w h o bs) : ∀ j u, (bcells bs)[j]? = some u → w.cell? ((⟨h, o, none⟩ : Addr).add j) = some u := by
  intro j u hj
  have hl : j < bs.length := by have := (List.getElem?_eq_some_iff.1 hj).1; rwa [bcells_length] at this
  rw [bcells_get bs j hl] at hj
  rw [show (⟨h, o, none⟩ : Addr).add j = ⟨h, o + j, none⟩ from by simp [Addr.add]]
  exact (hs.2 j hl).trans hj
theorem one_bytes (bs : List Int) : ∀ u ∈ bcells bs, u.oneCell' = true := by
  intro u hu
  simp only [bcells, List.mem_map] at hu
  obtain ⟨x, -, rfl⟩ := hu
  rfl
def JnRel (w : World) (ps : List (List Int)) (G : Nat) (v i : Value) (wr : World) : Prop := ∃ q : Nat, q ≤ ps.length ∧ G = ps.length - q ∧ i = .int .i64 q ∧ ByRow wr w.heap.size v (catS ps q) ∧ (∃ A n c, v = .slice A n c) ∧ Below w.heap.size w wr
set_option maxRecDepth 100000 in
set_option maxHeartbeats 2000000 in
theorem rjoin_any (LA : Option Addr) (ln lcap : Nat) (ps : List (List Int)) (hln : ps.length = ln) (hp : ∀ p ∈ ps, 0 < p.length) (h0 : 0 < ps.length) (bs : List Int) (hbs : ps.flatten = bs) (hsz : bs.length ≤ 1000) (hp2 : ps.length ≤ 1000) (w : World) (h : PartsAt w LA ps) :
    Calls Tryz.prog 40 #[.slice LA ln lcap] w (JoinR w bs) := by
  have HPA := Lib.hid h; clear h
  subst hln
  have hpos : 0 < bs.length := by
    rw [← hbs]
    cases ps with
    | nil => simp at h0
    | cons p l => rw [List.flatten_cons, List.length_append]; have := hp p (by simp); omega
  have hle9 : ∀ q, (catS ps q).length ≤ bs.length := fun q => hbs ▸ catS_le ps q
  have HBS := Lib.hid hbs; have HLE := Lib.hid hle9; clear hbs hle9
  obtain ⟨i0, hif, hz0, hz1, hz2⟩ := info_parts infoU8
  go_enter Tryz.func40, Tryz.ntmps40
  go_upto_region 1 with fail
  go_cut [3] (fun v wx => (∃ A n c, v = .slice A n c) ∧ ByRow wx w.heap.size v [] ∧ Below w.heap.size w wx)
  case first =>
    go_wp2_with fail
    go_meet
    exact ⟨⟨_, _, _, rfl⟩, (by first | exact World.ownsRow_made w #[] 0 (Nat.le_refl _) (by decide) (by rfl) | exact World.ownsRow_nil _ _ _ _), (by (repeat' (first | (with_reducible exact Below.refl _ _) | (with_reducible refine Below.setCell ?_ ?_ _) | (with_reducible refine Below.alloc ?_ ?_ _) | (with_reducible refine Below.drew ?_) | (with_reducible refine below_drewN ?_ _))) <;> (first | omega | (simp <;> omega)))⟩
  case rest =>
    obtain ⟨⟨A0, n0, c0, rfl⟩, hrow, KC⟩ := hcut
    have HR := Lib.hid hrow; have HC := Lib.hid KC; have ZC := KC.size
    clear hrow KC
    go_wp2
    go_loopg [3, 4] ps.length (fun G v i wr => JnRel w ps G v i wr)
    case atStart => exact ⟨0, by omega, by omega, rfl, HR.out, ⟨_, _, _, rfl⟩, HC.out⟩
    case round =>
      obtain ⟨q, hq, rfl, rfl, hrow, ⟨A, n, c, rfl⟩, KR⟩ := hrel
      have ZR := KR.size
      clear HR HC
      have HROW := Lib.hid hrow; have HKR := Lib.hid KR
      have HPR := Lib.hid (HPA.out.below KR)
      clear hrow KR
      by_cases hlt : q < ps.length
      · have gq : decide ((q : Int) < (ps.length : Int)) = true := decide_eq_true (by omega)
        have gqn : decide (q < ps.length) = true := decide_eq_true hlt
        have wq : IntKind.i64.wrap ((q : Int) + 1) = ((q + 1 : Nat) : Int) := by rw [IntWalk.i64_in _ (by omega)]; omega
        obtain ⟨g, off, rfl, hg, hc⟩ := HPR.out
        obtain ⟨h, o, c', hcell, hsl⟩ := hc q hlt
        have hpl : 0 < (ps.getD q []).length := hp _ (by rw [List.getD_eq_getElem?_getD, List.getElem?_eq_getElem hlt]; exact List.getElem_mem _)
        have hst := catS_succ ps q hlt
        have hle := HLE.out (q + 1)
        rw [hst, List.length_append] at hle
        clear hc HPR
        generalize ps.getD q [] = p at *
        have hlt0 := HROW.out.own
        have HST := Lib.hid hst; have HSL := Lib.hid hsl; clear hst hsl
        generalize hv : (Value.slice A n c) = v at *
        have HV := Lib.hid hv; clear hv
        go_wp2_with (at_builtin; refine wpList_append_lies _ rfl _ _ 35 rfl w.heap.size 5 i0 (.int .u8 0) 1 1 Tryz.underlying35 hif hz0 hz1 hz2 rfl (by decide) v (catS ps q).length (bcells (catS ps q)) rfl HROW.out ⟨h, o, none⟩ p.length c' (bcells p) rfl (by rw [bcells_length, Nat.mul_one]) (news_bytes HSL.out) (one_bytes p) hpl ?c3 ?c4 ?c5 _ rfl ?_)
        case c3 => unfold maxLen; omega
        case c4 => omega
        case c5 => first | omega | (simp; omega)
        intro g9 cp9 w7 hown hgrow hlie hglt
        have K7 : Below w.heap.size w w7 := HKR.out.grown hgrow (by omega) (fun k hk => (hlt0 k hk).1)
        have hr7 : ByRow w7 w.heap.size (.slice (some ⟨g9, 0, none⟩) ((catS ps q).length + p.length) cp9) (catS ps (q + 1)) := by
          unfold ByRow
          rw [HST.out, List.length_append, bcells_app]; exact hown
        have R7 := Lib.hid hr7
        clear hown hgrow hlie hglt hr7
        go_wp2
        go_roundg (ps.length - (q + 1))
        case measure => omega
        case rel => exact ⟨q + 1, by omega, by omega, by go_num, R7.out, ⟨_, _, _, rfl⟩, K7⟩
      · obtain rfl : q = ps.length := by omega
        have gq : decide ((ps.length : Int) < (ps.length : Int)) = false := decide_eq_false (by omega)
        have hall : catS ps ps.length = bs := by unfold catS; rw [List.take_length]; exact HBS.out
        have hrow := HROW.out
        rw [hall] at hrow
        obtain ⟨g9, cp9, e9, hg9, hl9, -⟩ := hrow.form hpos
        obtain ⟨rfl, rfl, rfl⟩ : A = some ⟨g9, 0, none⟩ ∧ n = bs.length ∧ c = cp9 := by injection e9 with a b c; exact ⟨a, b, c⟩
        have HRW := Lib.hid hrow; clear hrow HROW hall
        go_wp2
        go_ret
        exact ⟨g9, c, rfl, hg9, hl9, HRW.out, HKR.out⟩
theorem ByRow.mono {w : World} {base base' : Nat} {v : Value} {bs : List Int} (h : ByRow w base v bs) (hb : base' ≤ base) : ByRow w base' v bs := by
  refine ⟨h.1, ?_⟩
  rcases h.2 with h2 | ⟨g, cap, cur, h1, h2, h3⟩
  · exact .inl h2
  · exact .inr ⟨g, cap, cur, h1, by omega, h3⟩
theorem zsize (n : Nat) (z : Value) (h : z.cells.size = 1) : (Builtin.zeroCells z.cells n).size = n := by simp [Builtin.zeroCells, h]
set_option maxRecDepth 100000 in
set_option maxHeartbeats 2000000 in
theorem grow_any (n : Nat) (n0 : 0 < n) (n1 : n ≤ 1000) (w : World) :
    Calls Tryz.prog 114 #[.slice none 0 0, .int .i64 n] w (fun e w' => ∃ g cap, e = .returned (.slice (some ⟨g, 0, none⟩) 0 cap) ∧ ByRow w' w.heap.size (.slice (some ⟨g, 0, none⟩) 0 cap) [] ∧ Below w.heap.size w w') := by
  obtain ⟨i0, hif, hz0, hz1, hz2⟩ := info_parts infoU8
  have gn : decide ((n : Int) < 0) = false := decide_eq_false (by omega)
  have gn1 : decide (0 < (n : Int)) = true := decide_eq_true (by omega)
  have gn2 : decide (0 < n) = true := decide_eq_true n0
  have wn : IntKind.i64.wrap ((n : Int) - 0) = (n : Int) := by rw [IntWalk.i64_in _ (by omega)]; omega
  have wn2 : IntKind.i64.wrap (n : Int) = (n : Int) := IntWalk.i64_in _ (by omega)
  have hr : ∀ ty, (Builtin.append_ #[35, 3] ty #[.slice none 0 0, .int .i64 n]).run Tryz.prog w = _ := fun ty => Lib.run_append_nil_zeros w 35 3 ty 5 i0 (.int .u8 0) .i64 .i64 Tryz.underlying35 Tryz.underlying3 hif hz0 n n0 (by omega) (by omega) (by rw [hz2]; omega)
  have hge := grownCap_ge w n 0 5
  have hle := grownCap_le_maxLen w n 0 5 (by unfold maxLen; omega)
  generalize grownCap w n 0 5 = cap at *
  obtain ⟨cur, hcur⟩ : ∃ cur : Array Value, cur = Builtin.zeroCells (Value.int .u8 0).cells n ++ Builtin.zeroCells (Value.int .u8 0).cells (cap - n) := ⟨_, rfl⟩
  have hcs : cur.size = cap := by rw [hcur, Array.size_append, zsize _ _ rfl, zsize _ _ rfl]; omega
  rw [← hcur] at hr
  clear hcur
  have HR := Lib.hid hr; clear hr
  go_enter Tryz.func114, Tryz.ntmps114
  go_wp2_with (at_builtin; refine Lib.wpList_append_run _ rfl _ _ _ _ rfl _ _ rfl rfl _ _ (HR.out _) ?_)
  go_ret
  exact ⟨w.heap.size, cap, rfl, World.ownsRow_made w.drew cur cap (by first | exact Nat.le_refl _ | simp) hle (by rw [hcs, Nat.mul_one]), (by (repeat' (first | (with_reducible exact Below.refl _ _) | (with_reducible refine Below.setCell ?_ ?_ _) | (with_reducible refine Below.alloc ?_ ?_ _) | (with_reducible refine Below.drew ?_) | (with_reducible refine below_drewN ?_ _))) <;> (first | omega | (simp <;> omega)))⟩
def CnRel (w : World) (ps : List (List Int)) (G : Nat) (v i : Value) (wr : World) : Prop := ∃ q : Nat, q ≤ ps.length ∧ G = ps.length - q ∧ i = .int .i64 q ∧ v = .int .i64 ((catS ps q).length : Int) ∧ Below w.heap.size w wr
set_option maxRecDepth 100000 in
set_option maxHeartbeats 2000000 in
theorem ojoin_any (LA : Option Addr) (ln lcap : Nat) (ps : List (List Int)) (hln : ps.length = ln) (hp : ∀ p ∈ ps, 0 < p.length) (h0 : 0 < ps.length) (bs : List Int) (hbs : ps.flatten = bs) (hsz : bs.length ≤ 1000) (hp2 : ps.length ≤ 1000) (w : World) (h : PartsAt w LA ps) :
    Calls Tryz.prog 81 #[.slice LA ln lcap] w (JoinR w bs) := by
  have HPA := Lib.hid h; clear h
  subst hln
  have hpos : 0 < bs.length := by
    rw [← hbs]
    cases ps with
    | nil => simp at h0
    | cons p l => rw [List.flatten_cons, List.length_append]; have := hp p (by simp); omega
  have hle9 : ∀ q, (catS ps q).length ≤ bs.length := fun q => hbs ▸ catS_le ps q
  have HBS := Lib.hid hbs; have HLE := Lib.hid hle9; clear hbs hle9
  obtain ⟨i0, hif, hz0, hz1, hz2⟩ := info_parts infoU8
  go_enter Tryz.func81, Tryz.ntmps81
  go_wp2
  go_loopg [3, 11] ps.length (fun G v i wr => CnRel w ps G v i wr)
  case atStart => exact ⟨0, by omega, by omega, rfl, by simp [catS], Below.refl _ _⟩
  case round =>
    obtain ⟨q, hq, rfl, rfl, rfl, KR⟩ := hrel
    have ZR := KR.size
    have HKR := Lib.hid KR
    have HPR := Lib.hid (HPA.out.below KR)
    clear KR
    by_cases hlt : q < ps.length
    · have gq : decide ((q : Int) < (ps.length : Int)) = true := decide_eq_true (by omega)
      have gqn : decide (q < ps.length) = true := decide_eq_true hlt
      have wq : IntKind.i64.wrap ((q : Int) + 1) = ((q + 1 : Nat) : Int) := by rw [IntWalk.i64_in _ (by omega)]; omega
      obtain ⟨g, off, rfl, hg, hc⟩ := HPR.out
      obtain ⟨h, o, c', hcell, hsl⟩ := hc q hlt
      have hst := catS_succ ps q hlt
      have hle := HLE.out (q + 1)
      have hl2 : (catS ps (q + 1)).length = (catS ps q).length + (ps.getD q []).length := by rw [hst, List.length_append]
      clear hc HPR hsl hst
      generalize (ps.getD q []).length = pl at *
      obtain ⟨c1, hc1⟩ : ∃ c1, (catS ps (q + 1)).length = c1 := ⟨_, rfl⟩
      rw [hc1] at hle hl2
      have HC1 := Lib.hid hc1; clear hc1
      generalize (catS ps q).length = c0 at *
      have wa : IntKind.i64.wrap ((c0 : Int) + (pl : Int)) = (c1 : Int) := by rw [IntWalk.i64_in _ (by omega)]; omega
      have ga : decide ((c1 : Int) < 0) = false := decide_eq_false (by omega)
      have HL2 := Lib.hid hl2; clear hl2
      go_wp2
      go_roundg (ps.length - (q + 1))
      case measure => omega
      case rel => exact ⟨q + 1, by omega, by omega, by go_num, by rw [HC1.out], HKR.out⟩
    · obtain rfl : q = ps.length := by omega
      have gq : decide ((ps.length : Int) < (ps.length : Int)) = false := decide_eq_false (by omega)
      rw [show catS ps ps.length = bs from by unfold catS; rw [List.take_length]; exact HBS.out]
      go_wp2_with fail
      refine (grow_any bs.length hpos hsz _).mono ?_
      rintro e w2 ⟨g, cap, rfl, hrow0, hb2⟩
      have KC : Below w.heap.size w w2 := kept_call hb2 HKR.out
      have hrow : ByRow w2 w.heap.size (.slice (some ⟨g, 0, none⟩) 0 cap) [] := hrow0.mono ZR
      have HR := Lib.hid hrow; have HC := Lib.hid KC; have ZC := KC.size
      clear hrow KC hrow0 hb2 HKR HPR
      go_wp2
      go_loopg [6, 27] ps.length (fun G v i wr => JnRel w ps G v i wr)
      case atStart => exact ⟨0, by omega, by omega, rfl, HR.out, ⟨_, _, _, rfl⟩, HC.out⟩
      case round =>
        obtain ⟨q, hq, rfl, rfl, hrow, ⟨A, n, c, rfl⟩, KR⟩ := hrel
        have ZR := KR.size
        clear HR HC
        have HROW := Lib.hid hrow; have HKR := Lib.hid KR
        have HPR := Lib.hid (HPA.out.below KR)
        clear hrow KR gq
        by_cases hlt : q < ps.length
        · have gq : decide ((q : Int) < (ps.length : Int)) = true := decide_eq_true (by omega)
          have gqn : decide (q < ps.length) = true := decide_eq_true hlt
          have wq : IntKind.i64.wrap ((q : Int) + 1) = ((q + 1 : Nat) : Int) := by rw [IntWalk.i64_in _ (by omega)]; omega
          obtain ⟨g, off, rfl, hg, hc⟩ := HPR.out
          obtain ⟨h, o, c', hcell, hsl⟩ := hc q hlt
          have hpl : 0 < (ps.getD q []).length := hp _ (by rw [List.getD_eq_getElem?_getD, List.getElem?_eq_getElem hlt]; exact List.getElem_mem _)
          have hst := catS_succ ps q hlt
          have hle := HLE.out (q + 1)
          rw [hst, List.length_append] at hle
          clear hc HPR
          generalize ps.getD q [] = p at *
          have hlt0 := HROW.out.own
          have HST := Lib.hid hst; have HSL := Lib.hid hsl; clear hst hsl
          generalize hv : (Value.slice A n c) = v at *
          have HV := Lib.hid hv; clear hv
          go_wp2_with (at_builtin; refine wpList_append_lies _ rfl _ _ 35 rfl w.heap.size 5 i0 (.int .u8 0) 1 1 Tryz.underlying35 hif hz0 hz1 hz2 rfl (by decide) v (catS ps q).length (bcells (catS ps q)) rfl HROW.out ⟨h, o, none⟩ p.length c' (bcells p) rfl (by rw [bcells_length, Nat.mul_one]) (news_bytes HSL.out) (one_bytes p) hpl ?c3 ?c4 ?c5 _ rfl ?_)
          case c3 => unfold maxLen; omega
          case c4 => omega
          case c5 => first | omega | (simp; omega)
          intro g9 cp9 w7 hown hgrow hlie hglt
          have K7 : Below w.heap.size w w7 := HKR.out.grown hgrow (by omega) (fun k hk => (hlt0 k hk).1)
          have hr7 : ByRow w7 w.heap.size (.slice (some ⟨g9, 0, none⟩) ((catS ps q).length + p.length) cp9) (catS ps (q + 1)) := by
            unfold ByRow
            rw [HST.out, List.length_append, bcells_app]; exact hown
          have R7 := Lib.hid hr7
          clear hown hgrow hlie hglt hr7
          go_wp2
          go_roundg (ps.length - (q + 1))
          case measure => omega
          case rel => exact ⟨q + 1, by omega, by omega, by go_num, R7.out, ⟨_, _, _, rfl⟩, K7⟩
        · obtain rfl : q = ps.length := by omega
          have gq : decide ((ps.length : Int) < (ps.length : Int)) = false := decide_eq_false (by omega)
          have hall : catS ps ps.length = bs := by unfold catS; rw [List.take_length]; exact HBS.out
          have hrow := HROW.out
          rw [hall] at hrow
          obtain ⟨g9, cp9, e9, hg9, hl9, -⟩ := hrow.form hpos
          obtain ⟨rfl, rfl, rfl⟩ : A = some ⟨g9, 0, none⟩ ∧ n = bs.length ∧ c = cp9 := by injection e9 with a b c; exact ⟨a, b, c⟩
          have HRW := Lib.hid hrow; clear hrow HROW hall
          go_wp2
          go_ret
          exact ⟨g9, c, rfl, hg9, hl9, HRW.out, HKR.out⟩
theorem octjoin_any (LA : Option Addr) (ln lcap : Nat) (ps : List (List Int)) (hln : ps.length = ln) (hp : ∀ p ∈ ps, 0 < p.length) (h0 : 0 < ps.length) (bs : List Int) (hbs : ps.flatten = bs) (hsz : bs.length ≤ 1000) (hp2 : ps.length ≤ 1000) (w : World) (h : PartsAt w LA ps) :
    Calls Tryz.prog 43 #[.slice LA ln lcap] w (JoinR w bs) := by
  have HPA := Lib.hid h; clear h
  go_enter Tryz.func43, Tryz.ntmps43
  go_wp2_with fail
  refine (ojoin_any LA ln lcap ps hln hp h0 bs hbs hsz hp2 _ HPA.out).mono ?_
  rintro e w' ⟨g, cap, rfl, h1, h2, h3, h4⟩
  go_wp2
  go_ret
  exact ⟨g, cap, rfl, h1, h2, h3, h4⟩
end Go.Proofs.YtlnboheahbfgfaaGreat
namespace Go.Proofs.YtlnboheahbfgfaaGreat
open Go.RowKit
set_option linter.unusedSimpArgs false
set_option linter.unusedVariables false

def gtS (bs : List Int) : Nat → Int
  | 0 => 0
  | q + 1 => bits .or .u64 (IntKind.u64.wrap (gtS bs q * 256)) (bs.getD q 0)
theorem bits_u64 (op : BinOp) (x y : Int) : 0 ≤ bits op .u64 x y ∧ bits op .u64 x y < 18446744073709551616 := by
  have : ∀ z : Int, 0 ≤ IntKind.u64.wrap z ∧ IntKind.u64.wrap z < 18446744073709551616 := fun z => by
    simp [IntKind.wrap, IntKind.bits, IntKind.signed]; omega
  exact this _
theorem gtS_in (bs : List Int) (q : Nat) : 0 ≤ gtS bs q ∧ gtS bs q < 18446744073709551616 := by
  cases q with
  | zero => exact ⟨by show (0 : Int) ≤ 0; omega, by show (0 : Int) < _; omega⟩
  | succ q => exact bits_u64 _ _ _
theorem BySl.tail {w : World} {g off : Nat} {bs : List Int} (h : BySl w g off bs) (k : Nat) (hk : k ≤ bs.length) : BySl w g (off + k) (bs.drop k) :=
  ⟨h.1, fun j hj => by
    rw [List.length_drop] at hj
    have := h.2 (k + j) (by omega)
    rw [show off + k + j = off + (k + j) by omega, this, List.getD_eq_getElem?_getD, List.getD_eq_getElem?_getD, List.getElem?_drop]⟩
theorem BySl.head {w : World} {g off : Nat} {bs : List Int} (h : BySl w g off bs) (k : Nat) (hk : k ≤ bs.length) : BySl w g off (bs.take k) :=
  ⟨h.1, fun j hj => by
    rw [List.length_take] at hj
    rw [h.2 j (by omega), List.getD_eq_getElem?_getD, List.getD_eq_getElem?_getD, List.getElem?_take, if_pos (by omega)]⟩
def GtRel (w : World) (bs : List Int) (G : Nat) (v i : Value) (wr : World) : Prop := ∃ q : Nat, q ≤ 8 ∧ G = 8 - q ∧ i = .int .i64 q ∧ v = .int .u64 (gtS bs q) ∧ Below w.heap.size w wr
set_option maxRecDepth 100000 in
set_option maxHeartbeats 1000000 in
theorem oget_any (g off c : Nat) (bs : List Int) (hl : bs.length = 8) (hb : ∀ x ∈ bs, 0 ≤ x ∧ x < 256) (w : World) (h : BySl w g off bs) :
    Calls Tryz.prog 45 #[.slice (some ⟨g, off, none⟩) 8 c] w (RB w (.int .u64 (gtS bs 8))) := by
  have HB := Lib.hid h; clear h
  obtain ⟨G8, hG8⟩ : ∃ x, gtS bs 8 = x := ⟨_, rfl⟩
  rw [hG8]
  have HG8 := Lib.hid (show ∃ n, n = 8 ∧ gtS bs n = G8 from ⟨8, rfl, hG8⟩); clear hG8
  go_enter Tryz.func45, Tryz.ntmps45
  go_wp2
  go_loopg [3, 13] 8 (fun G v i wr => GtRel w bs G v i wr)
  case atStart => exact ⟨0, by omega, by omega, rfl, rfl, Below.refl _ _⟩
  case round =>
    obtain ⟨q, hq, rfl, rfl, rfl, KR⟩ := hrel
    have HKR := Lib.hid KR
    have hB := HB.out.below KR
    clear KR
    by_cases hlt : q < 8
    · have gq : decide ((q : Int) < 8) = true := decide_eq_true (by omega)
      have gqn : decide (q < 8) = true := decide_eq_true hlt
      have wq : IntKind.i64.wrap ((q : Int) + 1) = ((q + 1 : Nat) : Int) := by rw [IntWalk.i64_in _ (by omega)]; omega
      have hc := hB.2 q (by omega)
      have hg := hB.1
      have hx := hb (bs.getD q 0) (by rw [List.getD_eq_getElem?_getD, List.getElem?_eq_getElem (by omega)]; exact List.getElem_mem _)
      have hst : gtS bs (q + 1) = bits .or .u64 (IntKind.u64.wrap (gtS bs q * 256)) (bs.getD q 0) := rfl
      generalize bs.getD q 0 = x at *
      generalize gtS bs q = y at *
      have wx : IntKind.u64.wrap x = x := by simp [IntKind.wrap, IntKind.bits, IntKind.signed]; omega
      have wx2 : x % 18446744073709551616 = x := Int.emod_eq_of_lt hx.1 (by omega)
      have HST := Lib.hid hst; clear hst hB
      go_wp2
      go_roundg (8 - (q + 1))
      case measure => omega
      case rel => exact ⟨q + 1, by omega, by omega, by go_num, by rw [HST.out], HKR.out⟩
    · obtain rfl : q = 8 := by omega
      have gq : decide (((8 : Nat) : Int) < 8) = false := by decide
      have gq2 : decide ((8 : Int) < 8) = false := by decide
      clear hB
      have e8 : gtS bs 8 = G8 := by obtain ⟨n, rfl, h⟩ := HG8.out; exact h
      rw [e8]
      clear e8
      go_wp2
      go_ret
      exact ⟨rfl, HKR.out⟩
end Go.Proofs.YtlnboheahbfgfaaGreat
