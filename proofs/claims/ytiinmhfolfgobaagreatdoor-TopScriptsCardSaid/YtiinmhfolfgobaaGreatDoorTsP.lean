/- The script of the samples of a schedule without liars, in plain words. -/
import Derived.Test.YtiinmhfolfgobaaGreatDoorSched
import Derived.Test.YtiinmhfolfgobaaGreatDoorJ37
import Derived.Test.YtiinmhfolfgobaaGreatDoorJ38
import Derived.Test.YtiinmhfolfgobaaGreatDoorJ45
import Derived.Test.YtiinmhfolfgobaaGreatDoorJ44
namespace Go.Proofs.YtiinmhfolfgobaaGreatDoor
open Go.RowKit Go.Lib
set_option linter.unusedSimpArgs false
set_option linter.unusedVariables false

theorem sch_truthful {sta loc p li ai : Int} {es : List Int} {xs : List Stp} {n : Int} (h : SchOk sta loc p li ai es xs n false) (hn : n ≤ 16) : GoodS ⟨sta, loc, p, 0, 0, es, xs⟩ := by
  obtain ⟨b1, b2, b3, b4, b5, b6, b7, b8, b9, b10, b11, b12, b13, b14, b15, b16⟩ := h
  have hst : ∀ x ∈ xs, stpE p es.length x = 0 := fun x hx => by
    obtain ⟨c1, c2, c3, c4, c5, c6, c7, c8, c9, c10, c11, c12, c13, c14, c15, c16, c17, c18, c19, c20, c21, c22, c23, c24, c25, c26, c27⟩ := b16 x hx
    unfold stpE
    rw [if_pos, if_pos]
    · unfold Stp.ft
      simp only [Bool.and_eq_true, fitsB_true]
      exact ⟨c7, c12, c17, c22⟩
    · unfold Stp.rg
      simp only [Bool.and_eq_true, decide_eq_true_eq, nearB_true, Stp.ls, List.all_cons, List.all_nil, lenB_true, and_true]
      refine ⟨c1, c2, ⟨?_, ?_, ?_, ?_, ?_, ?_, ?_, ?_⟩, ?_, ?_⟩ <;> omega
  refine ⟨?_, by show xs.length ≤ 20; omega, b1, b2, b3, b4, fun e he => (b13 e he).2, fun x hx => ?_⟩
  · unfold chkE
    rw [if_neg (by show ¬ (es.length < 1 ∨ 8 < es.length ∨ 64 < xs.length); omega), if_pos]
    · exact stpsE_none hst
    · unfold Sch.rg
      simp only [Bool.and_eq_true, decide_eq_true_eq, nearB_true, List.all_eq_true, lenB_true]
      exact ⟨by omega, by omega, by omega, by omega, by omega, by omega, by omega, by omega, by omega, fun e he => by have := b13 e he; omega⟩
  · obtain ⟨c1, c2, c3, c4, c5, c6, c7, c8, c9, c10, c11, c12, c13, c14, c15, c16, c17, c18, c19, c20, c21, c22, c23, c24, c25, c26, c27⟩ := b16 x hx
    exact ⟨c4, c9, c14, c19, c23, c24, c25, c26, fun _ => c27 rfl⟩
theorem mgO_empty (u : Int) : mgO [] u 0 = (0, 0, 4) := by
  have hq : qE [] 0 = 4 := qE_range (by decide) (.inr (by decide))
  exact mgO_of (.inr (.inr ⟨by decide, fun j hj => by simp at hj, .inl ⟨by show qE [] 0 ≠ 0; rw [hq]; decide, rfl, rfl, hq.symm⟩⟩))
/-- The numbers of the line of a step. -/
def smpN (s : Sch) (m : Sim) (x : Stp) : List Int := [x.src, m.u + x.lo, m.t + x.tr + x.ou + x.w2, m.t + x.tr + x.ou + x.ho + x.w3, uAft m x, s.es.getD x.src.toNat 0]
/-- The lines behind q steps, and the bench behind them. -/
def TsN (s : Sch) (q : Nat) (m : Sim) (ls : List (List UInt8)) : Prop :=
  (∃ rs, RunN s q m rs) ∧ ls.length = q + 2 ∧ (∀ l ∈ ls, GoodL noSave l ∧ (10 : UInt8) ∉ l) ∧ (lnsT ls).length ≤ 100 + 150 * q ∧ ∃ out, out.length ≤ 400 + 200 * q ∧ ∀ ls', Bn.lines noSave .zero 0 (ls ++ ls') = Bn.lines noSave ⟨true, m.by_, 0, s.p, .zero, out⟩ (q + 2) ls'
theorem ts_line (c : Cmd) (ns : List Int) (hc : c ≠ .save) (hs : ∀ n ∈ ns, small17 n) : GoodL noSave (lnW c.word ns) ∧ (10 : UInt8) ∉ lnW c.word ns := ⟨goodL_cmd noSave c ns hc hs, fun h => (ln_chars c ns _ h).2 rfl⟩
theorem s17I {n : Int} (h : small17 n) : smallI n := ⟨by have := h.1; omega, by have := h.2; omega⟩
theorem lns_one (ls : List (List UInt8)) (l : List UInt8) : lnsT (ls ++ [l]) = lnsT ls ++ (l ++ [10]) := by rw [lnsT_app]; simp [lnsT]
theorem lns_two (ls : List (List UInt8)) (a b : List UInt8) : lnsT (ls ++ [a, b]) = (lnsT ls ++ (a ++ [10])) ++ (b ++ [10]) := by rw [lnsT_app]; simp [lnsT]
theorem ts_init {s : Sch} (g : GoodS s) : TsN s 0 s.init [lnW wSources [s.es.length, 0], lnW wDrift [s.p]] := by
  obtain ⟨h, -, b1, b2, b3, b4, -⟩ := g
  obtain ⟨c1, c2, c3, c4, c5⟩ := chkE_0 h
  obtain ⟨-, -, p0, p1, -⟩ := Sch.rg_all c4
  have z0 : small17 0 := ⟨by decide, by decide⟩
  have zn : small17 (s.es.length : Int) := ⟨by omega, by omega⟩
  have zp : small17 s.p := ⟨by omega, by omega⟩
  have hS : ∀ n ∈ [(s.es.length : Int), 0], small17 n := fun n hn => by simp at hn; rcases hn with rfl | rfl; exact zn; exact z0
  have hD : ∀ n ∈ [s.p], small17 n := fun n hn => by simp at hn; subst hn; exact zp
  refine ⟨⟨[], rfl, rfl⟩, rfl, fun l hl => ?_, ?_, ?_⟩
  · simp only [List.mem_cons, List.mem_nil_iff, or_false] at hl
    rcases hl with rfl | rfl
    · exact ts_line .sources _ (by intro h; cases h) hS
    · exact ts_line .drift _ (by intro h; cases h) hD
  · have l1 := lnW_len (word := wSources) (ns := [(s.es.length : Int), 0]) (fun n hn => s17I (hS n hn))
    have l2 := lnW_len (word := wDrift) (ns := [s.p]) (fun n hn => s17I (hD n hn))
    simp only [wSources, wDrift, List.length_cons, List.length_nil] at l1 l2
    simp only [lnsT, List.length_append, List.length_cons, List.length_nil, wSources, wDrift]
    omega
  · let b1 : Bn := ⟨true, List.replicate s.es.length (false, .zero), 0, 0, .zero, sayL wSources [s.es.length, 0]⟩
    let b2 : Bn := ⟨true, List.replicate s.es.length (false, .zero), 0, s.p, .zero, b1.out ++ sayL wDrift [s.p]⟩
    have e1 : Bn.zero.run noSave .sources [s.es.length, 0] = (b1, 0) := by
      show Bn.zero.sources (s.es.length : Int) 0 = _
      unfold Bn.sources
      rw [if_pos (by omega), Int.toNat_natCast]; rfl
    have hany : (List.replicate s.es.length ((false, K6.zero) : Kw)).any (·.1) = false := by
      rw [List.any_eq_false]; intro k hk; rw [List.eq_of_mem_replicate hk]; decide
    have e2 : b1.run noSave .drift [s.p] = (b2, 0) := by
      show b1.drift s.p = _
      unfold Bn.drift
      rw [show b1.srcs.any (·.1) = false from hany, if_neg (by decide), if_pos ⟨p0, p1⟩]; rfl
    have i1 := (inv_sources .zero (s.es.length : Int) 0 (by decide) (vT_true.2 ⟨by omega, by omega⟩) (by decide)).1
    have i2 := (inv_drift b1 s.p (by show (List.replicate s.es.length _).length ≤ 64; rw [List.length_replicate]; omega) (vT_true.2 ⟨by omega, by omega⟩)).1
    rw [show Bn.zero.sources (s.es.length : Int) 0 = (b1, 0) from e1] at i1
    rw [show b1.drift s.p = (b2, 0) from e2] at i2
    have i0 : (Bn.zero.out).length = 0 := rfl
    refine ⟨b2.out, by dsimp only at i1 i2; omega, fun ls' => ?_⟩
    show Bn.lines noSave .zero 0 (lnW (Cmd.word .sources) [(s.es.length : Int), 0] :: lnW (Cmd.word .drift) [s.p] :: ls') = _
    rw [lines_cmd noSave _ _ .sources _ _ rfl hS (by rw [e1]), e1, lines_cmd noSave _ _ .drift _ _ rfl hD (by rw [e2]), e2]
    rfl
/-- What a step's exchange does: nothing is refused with an error. -/
theorem ts_took {s : Sch} {q : Nat} {m : Sim} {x : Stp} (h : chkE s = 0) (hq : q < s.xs.length) (hx : s.xs.getD q .zero = x) (hi : SInv s q m) (he : (s.ask m x).2.2 = 0) :
    (learnK (m.by_.getD x.src.toNat (false, .zero)) (uAft m x) (s.ask m x).1 (s.ask m x).2.1 s.p).1 = 0 ∧ takeK (m.by_.getD x.src.toNat (false, .zero)) (uAft m x) (s.ask m x).1 (s.ask m x).2.1 s.p = (true, (learnK (m.by_.getD x.src.toNat (false, .zero)) (uAft m x) (s.ask m x).1 (s.ask m x).2.1 s.p).2.2) := by
  have ha := ask_in h hq hx hi he
  have hh := (hi.hear h hq hx).2.2.2.2.2.2 he
  obtain ⟨c1, c2, c3, c4, c5⟩ := chkE_0 h
  obtain ⟨⟨a1, a2⟩, ⟨a3, a4⟩, p0, p1, -⟩ := Sch.rg_all c4
  obtain ⟨g1, g2, hu0, hu1, -⟩ := hi.hear h hq hx
  obtain ⟨i1, i2, i3, i4, i5, i6, i7⟩ := hi
  have q64 : (q : Int) < 64 := by omega
  unfold learnK takeK
  rcases hk : (m.by_.getD x.src.toNat (false, .zero)).1
  · simp only [Bool.false_eq_true, if_false]
    have v1 := vS_true.1 ha.1
    refine ⟨kE_0 ha.1 (vT_true.2 ⟨by omega, by omega⟩) p0 p1 (by decide) (by decide), trivial⟩
  · have e0 := hh hk
    simp only [if_true]
    rw [if_pos e0]
    exact ⟨e0, rfl⟩
theorem ts_small {s : Sch} {q : Nat} {m : Sim} {x : Stp} (g : GoodS s) (hq : q < s.xs.length) (hx : s.xs.getD q .zero = x) (hi : SInv s q m) : (∀ n ∈ smpN s m x, small17 n) ∧ 0 ≤ x.src ∧ x.src < s.es.length ∧ -100000000000000000 < tAft m x ∧ tAft m x < 100000000000000000 := by
  obtain ⟨h, gl, b1, b2, b3, b4, ges, gx⟩ := g
  have hxm : x ∈ s.xs := hx ▸ stp_get hq
  obtain ⟨x1, x2, x3, x4, w1, w2, w3, w4, -⟩ := gx x hxm
  obtain ⟨c1, c2, c3, c4, c5⟩ := chkE_0 h
  obtain ⟨-, -, p0, p1, -, -, -, -, -, a7⟩ := Sch.rg_all c4
  obtain ⟨y1, y2, y3, y4, y5, y6, y7, y8, y9, y10, y11, y12⟩ := Stp.rg_all (stpE_0 (c5 x hxm)).1
  obtain ⟨g1, g2, hu0, hu1, ht0, ht1, -⟩ := hi.hear h hq hx
  obtain ⟨i1, i2, i3, i4, -⟩ := hi
  have hes := a7 _ (es_get (s := s) (i := x.src.toNat) (by omega))
  have q20 : (q : Int) < 20 := by omega
  refine ⟨fun n hn => ?_, y1, y2, by omega, by omega⟩
  simp only [smpN, List.mem_cons, List.mem_nil_iff, or_false] at hn
  rcases hn with rfl | rfl | rfl | rfl | rfl | rfl
  · exact ⟨by omega, by omega⟩
  · exact ⟨by omega, by omega⟩
  · exact ⟨by omega, by omega⟩
  · exact ⟨by omega, by omega⟩
  · exact ⟨by omega, by omega⟩
  · exact ⟨by omega, by omega⟩
theorem ts_next {s : Sch} {q : Nat} {m : Sim} {x : Stp} {ls : List (List UInt8)} (g : GoodS s) (hq : q < s.xs.length) (hx : s.xs.getD q .zero = x) (hT : TsN s q m ls) :
    ∃ m', TsN s (q + 1) m' (ls ++ [lnW wSample (smpN s m x)]) ∧ m'.t = tAft m x ∧ m'.u = uAft m x ∧ m'.by_ = s.hear m x := by
  obtain ⟨⟨rs, hr⟩, hl, hg, hn, out, hol, ho⟩ := hT
  have h := g.1
  have hi := RunN.inv h (by omega) hr
  have hR := (RunN.len hr).2
  obtain ⟨hs, s0, s1, -⟩ := ts_small g hq hx hi
  obtain ⟨a1, a2, a3, ha⟩ := MG_ex (knowns (s.hear m x)) (uAft m x) s.li
  refine ⟨s.nxt m x (a1, a2, a3), ⟨⟨_, m, rs, (a1, a2, a3), hr, by rw [hx]; exact ha, by rw [hx], rfl⟩, by simp [hl], fun l hl => ?_, ?_, ?_⟩, rfl, rfl, rfl⟩
  · rcases List.mem_append.1 hl with hl | hl
    · exact hg l hl
    · simp at hl; subst hl; exact ts_line .sample _ (by intro h; cases h) hs
  · have l1 := lnW_len (word := wSample) (ns := smpN s m x) (fun n hn => s17I (hs n hn))
    rw [lns_one, List.length_append, List.length_append]
    simp only [wSample, smpN, List.length_cons, List.length_nil] at l1 ⊢
    omega
  · have key : ∃ out', (Bn.mk true m.by_ 0 s.p .zero out).sample x.src (m.u + x.lo) (m.t + x.tr + x.ou + x.w2) (m.t + x.tr + x.ou + x.ho + x.w3) (uAft m x) (s.es.getD x.src.toNat 0) = (⟨true, s.hear m x, 0, s.p, .zero, out'⟩, 0) := by
      unfold Bn.sample
      rw [if_pos ⟨s0, by show x.src < (m.by_.length : Int); omega⟩]
      show ∃ out', (Bn.mk true m.by_ 0 s.p .zero out).heard x.src (uAft m x) (s.ask m x) = _
      unfold Bn.heard Sch.hear
      by_cases he : (s.ask m x).2.2 = 0
      · obtain ⟨t1, t2⟩ := ts_took h hq hx hi he
        rw [if_pos he, if_pos he, t2]
        unfold Bn.took
        rw [if_pos t1]
        exact ⟨_, rfl⟩
      · rw [if_neg he, if_neg he]
        exact ⟨_, rfl⟩
    obtain ⟨out', hk⟩ := key
    have hxs : vT x.src = true := vT_true.2 ⟨by omega, by have := (chkE_0 h).2.1; omega⟩
    have i1 := (inv_sample (Bn.mk true m.by_ 0 s.p .zero out) x.src (m.u + x.lo) (m.t + x.tr + x.ou + x.w2) (m.t + x.tr + x.ou + x.ho + x.w3) (uAft m x) (s.es.getD x.src.toNat 0) (by show m.by_.length ≤ 64; rw [hR]; have := (chkE_0 h).2.1; omega) hxs).1
    rw [hk] at i1
    refine ⟨out', by dsimp only at i1; omega, fun ls' => ?_⟩
    rw [List.append_assoc, ho]
    have e : (Bn.mk true m.by_ 0 s.p .zero out).run noSave .sample (smpN s m x) = (⟨true, s.hear m x, 0, s.p, .zero, out'⟩, 0) := hk
    show Bn.lines noSave _ (q + 2) (lnW (Cmd.word .sample) (smpN s m x) :: ls') = _
    rw [lines_cmd noSave _ _ .sample _ _ rfl hs (by rw [e]), e]
    rfl
/-- What a round of the law does, in one word. -/
theorem ts_round {s : Sch} {q src : Nat} {m : Sim} {ls : List (List UInt8)} {tr lo ou ol ho hl ba bl w2 w3 : Int} (g : GoodS s) (hq : q < s.xs.length) (hx : s.xs.getD q .zero = ⟨(src : Int), tr, lo, ou, ol, ho, hl, ba, bl, w2, w3⟩) (hT : TsN s q m ls) :
    src < s.es.length ∧ ∃ (T1 T2 T3 T4 V2 V3 U1 U2 U3 U4 e0 a0 a1 ae : Int) (m' : Sim), IntKind.i64.wrap (m.t + tr) = T1 ∧ IntKind.i64.wrap (T1 + ou) = T2 ∧ IntKind.i64.wrap (T2 + ho) = T3 ∧ IntKind.i64.wrap (T3 + ba) = T4 ∧ IntKind.i64.wrap (T2 + w2) = V2 ∧ IntKind.i64.wrap (T3 + w3) = V3 ∧
      IntKind.i64.wrap (m.u + lo) = U1 ∧ IntKind.i64.wrap (U1 + ol) = U2 ∧ IntKind.i64.wrap (U2 + hl) = U3 ∧ IntKind.i64.wrap (U3 + bl) = U4 ∧ s.es.getD src 0 = e0 ∧ atT U1 V2 V3 U4 e0 s.p = (a0, a1, ae) ∧ m'.t = T4 ∧ m'.u = U4 ∧ (∀ n ∈ ([(src : Int), U1, V2, V3, U4, e0] : List Int), small17 n) ∧
      TsN s (q + 1) m' (ls ++ [lnW wSample [(src : Int), U1, V2, V3, U4, e0]]) ∧ (ae = 0 → m'.by_ = m.by_.set src (takeK (m.by_.getD src (false, .zero)) U4 a0 a1 s.p)) ∧ (ae ≠ 0 → m'.by_ = m.by_) ∧ (ae = 0 → (m.by_.getD src (false, .zero)).1 = true → (lrnK (m.by_.getD src (false, .zero)).2 U4 a0 a1).e = 0) := by
  have hr := hT.1
  obtain ⟨rs, hr⟩ := hr
  have hi := RunN.inv g.1 (by omega) hr
  obtain ⟨hs, s0, s1, t0, t1⟩ := ts_small g hq hx hi
  obtain ⟨m', hN, ht, hu, hb⟩ := ts_next g hq hx hT
  have hh := (hi.hear g.1 hq hx).2.2.2.2.2.2
  have hes := chkE_0 g.1
  obtain ⟨y1, y2, y3, y4, y5, y6, y7, y8, y9, y10, y11, y12⟩ := Stp.rg_all (stpE_0 (hes.2.2.2.2 _ (hx ▸ stp_get hq))).1
  obtain ⟨i1, i2, i3, i4, -⟩ := hi
  obtain ⟨⟨a1, a2⟩, ⟨a3, a4⟩, -⟩ := Sch.rg_all hes.2.2.2.1
  have hxl : s.xs.length ≤ 20 := g.2.1
  have hbA : (s.ask m ⟨(src : Int), tr, lo, ou, ol, ho, hl, ba, bl, w2, w3⟩).2.2 = 0 → m'.by_ = m.by_.set src (takeK (m.by_.getD src (false, .zero)) (uAft m ⟨(src : Int), tr, lo, ou, ol, ho, hl, ba, bl, w2, w3⟩) (s.ask m ⟨(src : Int), tr, lo, ou, ol, ho, hl, ba, bl, w2, w3⟩).1 (s.ask m ⟨(src : Int), tr, lo, ou, ol, ho, hl, ba, bl, w2, w3⟩).2.1 s.p) := fun he => by
    rw [hb]; unfold Sch.hear; rw [if_pos he]; rfl
  have hbB : (s.ask m ⟨(src : Int), tr, lo, ou, ol, ho, hl, ba, bl, w2, w3⟩).2.2 ≠ 0 → m'.by_ = m.by_ := fun he => by
    rw [hb]; unfold Sch.hear; rw [if_neg he]
  have hat : ∀ y, s.ask m ⟨(src : Int), tr, lo, ou, ol, ho, hl, ba, bl, w2, w3⟩ = y → atT (m.u + lo) (m.t + tr + ou + w2) (m.t + tr + ou + ho + w3) (m.u + lo + ol + hl + bl) (s.es.getD src 0) s.p = (y.1, y.2.1, y.2.2) := fun y h => h
  obtain ⟨y, hy⟩ : ∃ y, s.ask m ⟨(src : Int), tr, lo, ou, ol, ho, hl, ba, bl, w2, w3⟩ = y := ⟨_, rfl⟩
  have hat := hat y hy
  rw [hy] at hbA hbB hh
  simp only [uAft, tAft, smpN, Int.toNat_natCast] at hs s0 s1 t0 t1 hN ht hu hbA hh y1 y2 y3 y4 y5 y6 y7 y8 y9 y10 y11 y12
  have q20 : (q : Int) < 20 := by omega
  exact ⟨by omega, m.t + tr, m.t + tr + ou, m.t + tr + ou + ho, m.t + tr + ou + ho + ba, m.t + tr + ou + w2, m.t + tr + ou + ho + w3, m.u + lo, m.u + lo + ol, m.u + lo + ol + hl, m.u + lo + ol + hl + bl, s.es.getD src 0, y.1, y.2.1, y.2.2, m', IntWalk.i64_in _ (by omega), IntWalk.i64_in _ (by omega), IntWalk.i64_in _ (by omega), IntWalk.i64_in _ (by omega), IntWalk.i64_in _ (by omega), IntWalk.i64_in _ (by omega), IntWalk.i64_in _ (by omega), IntWalk.i64_in _ (by omega), IntWalk.i64_in _ (by omega), IntWalk.i64_in _ (by omega), rfl, hat, ht, hu, hs, hN, hbA, hbB, hh⟩
/-- What is known by the sources: whether there is something, and what. -/
def KsAt (cs cb : Array Value) (l : List Kw) : Prop := cs.size = l.length ∧ cb.size = l.length * 6 ∧ ∀ j, j < l.length → cs[j]? = some (.bool (l.getD j (false, .zero)).1) ∧ ∀ i, i < 6 → cb[j * 6 + i]? = (l.getD j (false, .zero)).2.cs[i]?
theorem KsAt.put {cs cb : Array Value} {l : List Kw} (h : KsAt cs cb l) {q : Nat} (hq : q < l.length) (k : K6) : KsAt (cs.setIfInBounds q (.bool true)) (setArr cb (q * 6) k.cs) (l.set q (true, k)) := by
  have hk : k.cs.length = 6 := rfl
  refine ⟨by rw [Array.size_setIfInBounds, List.length_set]; exact h.1, by rw [setArr_size, List.length_set]; exact h.2.1, fun j hj => ?_⟩
  rw [List.length_set] at hj
  rw [getD_set']
  obtain ⟨h1, h2⟩ := h.2.2 j hj
  refine ⟨?_, fun i hi => ?_⟩
  · by_cases e : j = q
    · subst e; rw [if_pos ⟨rfl, hq⟩, Array.getElem?_setIfInBounds_self, if_pos (by rw [h.1]; exact hq)]
    · rw [if_neg (by simp [e]), Array.getElem?_setIfInBounds, if_neg (by omega)]; exact h1
  · rw [setArr_get _ _ _ _ (by rw [hk, h.2.1]; omega), hk]
    by_cases e : j = q
    · subst e; rw [if_pos (by omega), if_pos ⟨rfl, hq⟩]; congr 1; omega
    · rw [if_neg (by omega), if_neg (by simp [e])]; exact h2 i hi
theorem KsAt.same {cs cb : Array Value} {l : List Kw} (h : KsAt cs cb l) {q : Nat} (hq : q < l.length) (hs : (l.getD q (false, .zero)).1 = true) : cs.setIfInBounds q (.bool true) = cs := by
  have h1 := (h.2.2 q hq).1
  rw [hs] at h1
  refine Array.ext_getElem? fun i => ?_
  rw [Array.getElem?_setIfInBounds]
  split
  · rename_i e; subst e; rw [if_pos (by rw [h.1]; exact hq), h1]
  · rfl
theorem ks_made (n : Nat) : KsAt (madeCells #[.bool false] n) (madeCells #[.int .i64 0, .int .i64 0, .int .i64 0, .int .i64 0, .int .i64 0, .int .i64 0] (n * 6)) (List.replicate n (false, .zero)) := by
  refine ⟨by simp [madeCells], by simp [madeCells], fun j hj => ?_⟩
  rw [List.length_replicate] at hj
  have e : (List.replicate n ((false, K6.zero) : Kw)).getD j (false, .zero) = (false, .zero) := by
    rw [List.getD_eq_getElem?_getD, List.getElem?_replicate, if_pos hj]; rfl
  rw [e]
  refine ⟨?_, fun i hi => ?_⟩
  · rw [Array.getElem?_eq_getElem (by simp [madeCells]; omega)]; simp only [madeCells, Array.getElem_map, Array.getElem_range]; simp [Nat.mod_one]
  · have hm : (j * 6 + i) % 6 = i := by omega
    obtain rfl | rfl | rfl | rfl | rfl | rfl : i = 0 ∨ i = 1 ∨ i = 2 ∨ i = 3 ∨ i = 4 ∨ i = 5 := by omega
    all_goals (rw [Array.getElem?_eq_getElem (by simp [madeCells]; omega)]; simp only [madeCells, Array.getElem_map, Array.getElem_range]; simp only [List.size_toArray, List.length_cons, List.length_nil, Nat.reduceAdd, hm]; rfl)
theorem infoBl : (Tryz.prog.info? 4).map (fun i => (i.zero, i.size, i.bytes)) = some (some (.bool false), 1, 1) := by kernel_rfl
def smallJ (n : Int) : Prop := -9223372036854775807 ≤ n ∧ n ≤ 9223372036854775807
theorem s17J {n : Int} (h : small17 n) : smallJ n := ⟨by have := h.1; omega, by have := h.2; omega⟩
/-- A line, as the law writes it. -/
theorem top_line (word : List UInt8) (ws : Array UInt8) (hw : ws = word.toArray) (hl : word.length ≤ 10) (ns : List Int) (k : Nat) (hk : ns.length = k) (k6 : k ≤ 6) (hs : ∀ n ∈ ns, smallJ n) :
    ∃ L : List UInt8, lnW word ns ++ [10] = L ∧ L.length ≤ 200 ∧ ∀ (W : World) (gA : Nat), NumsR W (some ⟨gA, 0, none⟩) k ns → Calls Tryz.prog 19 #[.string ⟨ws⟩, .slice (some ⟨gA, 0, none⟩) k k] W (RB W (.string ⟨L.toArray⟩)) := by
  have h1 := lnW_len (word := word) (ns := ns) (fun n hn => ⟨by have := (hs n hn).1; omega, (hs n hn).2⟩)
  refine ⟨_, rfl, by rw [List.length_append]; simp; omega, fun W gA hN => ?_⟩
  subst hw
  exact topline_any word _ k k ns W hN (fun n hn => ⟨⟨by have := (hs n hn).1; omega, (hs n hn).2⟩, (hs n hn).1⟩) (by omega)
/-- What is known in the end has a common part, in which true time lies. -/
theorem ts_merge {s : Sch} {q : Nat} {m : Sim} {rs : List Rep} (g : GoodS s) (h0 : s.li = 0) (hq : q ≤ s.xs.length) (hr : RunN s q m rs) (hne : knowns m.by_ ≠ []) :
    ∃ x y, MG (knowns m.by_) m.u 0 x y 0 ∧ vS x y = true ∧ x ≤ m.t ∧ m.t ≤ y := by
  have h := g.1
  have hi := RunN.inv h hq hr
  have ht := RunN.true_ g hq hr
  have hlen := (RunN.len hr).2
  obtain ⟨c1, c2, c3, c4, c5⟩ := chkE_0 h
  obtain ⟨⟨a1, a2⟩, ⟨a3, a4⟩, p0, p1, -⟩ := Sch.rg_all c4
  obtain ⟨i1, i2, i3, i4, i5, i6, i7⟩ := hi
  obtain ⟨t1, t2, t3⟩ := ht
  have hkl := knowns_len m.by_
  have q64 : (q : Int) ≤ 64 := by omega
  have hcnt := cnt_true (li := 0) (P := s.p) (u := m.u) (t := m.t) (loc := s.loc) (n := q) (l := m.by_) p0 p1 a3 a4 (by omega) (by omega) (Int.le_refl _) (fun i hi => i6 i (by omega)) (fun i hi => by have := t2 i (by omega); rw [h0] at this; exact this)
  have hk : ∀ k ∈ knowns m.by_, (nowK m.u k).2.2 = 0 ∧ vS (spK m.u k).1 (spK m.u k).2 = true := fun k hk => by
    obtain ⟨i, hi, e⟩ := List.getElem_of_mem (knowns_mem hk)
    have := i6 i (by omega)
    rw [List.getD_eq_getElem?_getD, List.getElem?_eq_getElem hi, Option.getD_some, e] at this
    obtain ⟨wb, wa⟩ := this rfl
    obtain ⟨n1, n2, n3, -⟩ := wb.now p0 p1 a3 a4 (by omega) wa (by omega)
    rw [n1, n2]; exact ⟨rfl, n3⟩
  obtain ⟨x, y, er, hm⟩ := MG_ex (knowns m.by_) m.u 0
  have hpos : 0 < (knowns m.by_).length := List.length_pos_iff.2 hne
  have hm' := hm
  rcases hm with ⟨h9, -⟩ | ⟨-, i, hi, -, h9, -⟩ | ⟨-, -, hax⟩
  · exfalso; omega
  · have hmem : (knowns m.by_).getD i .zero ∈ knowns m.by_ := by rw [List.getD_eq_getElem?_getD, List.getElem?_eq_getElem hi]; exact List.getElem_mem _
    exact absurd (hk _ hmem).1 h9
  · have hck : ckE ((knowns m.by_).map (spK m.u)) = 0 := ckE_0 (by rw [List.length_map]; omega) (bad_of fun z hz => by
      obtain ⟨k, hkm, rfl⟩ := List.mem_map.1 hz
      exact (hk k hkm).2)
    have hqe : qE ((knowns m.by_).map (spK m.u)) 0 = 0 := qE_ok hck (by rw [List.length_map]; omega)
    obtain ⟨e, x0, x1, v⟩ := AX_truth hax hqe (t := m.t) (by rw [List.length_map]; exact hcnt)
    subst e
    exact ⟨x, y, hm', v, x0, x1⟩
/-- The line of the clock. -/
def clockL (x : Int) : List UInt8 := wClock ++ itoa x ++ wFree ++ [10]
theorem ts_end {s : Sch} {q : Nat} {m : Sim} {ls : List (List UInt8)} (g : GoodS s) (h0 : s.li = 0) (hq : q ≤ s.xs.length) (h1 : 0 < q) (hT : TsN s q m ls) :
    (∀ l ∈ cutAt 10 (trimSuffix (lnsT ls) [10]), GoodL noSave l) ∧ (∀ l ∈ cutAt 10 (trimSuffix (lnsT (ls ++ [lnW wNow [m.u], lnW wRead [0, m.u]])) [10]), GoodL noSave l) ∧ small17 m.u ∧
    ∃ out, out.length ≤ 10000 ∧ scriptV noSave (lnsT ls) = (out, 0, 0) ∧
      ((knowns m.by_ = [] ∧ ∃ o2, scriptV noSave (lnsT (ls ++ [lnW wNow [m.u], lnW wRead [0, m.u]])) = (o2, 0, 0)) ∨
       (knowns m.by_ ≠ [] ∧ ∃ x y, MG (knowns m.by_) m.u 0 x y 0 ∧ vS x y = true ∧ x ≤ m.t ∧ m.t ≤ y ∧ scriptV noSave (lnsT (ls ++ [lnW wNow [m.u], lnW wRead [0, m.u]])) = (out ++ (lnW wSpan [x, y] ++ [10]) ++ clockL x, 0, 0))) := by
  obtain ⟨⟨rs, hr⟩, hl, hg, hn, out, hol, ho⟩ := hT
  have hi := RunN.inv g.1 hq hr
  have g9 := g
  obtain ⟨h, gl, b1, b2, b3, b4, -⟩ := g
  obtain ⟨c1, c2, c3, c4, c5⟩ := chkE_0 h
  obtain ⟨⟨a1, a2⟩, ⟨a3, a4⟩, p0, p1, -⟩ := Sch.rg_all c4
  have hu : small17 m.u := ⟨by have := hi.2.2.1; omega, by have := hi.2.2.2.1; omega⟩
  have z0 : small17 0 := ⟨by decide, by decide⟩
  have hS : ∀ n ∈ [m.u], small17 n := fun n hn => by simp at hn; subst hn; exact hu
  have hR : ∀ n ∈ [0, m.u], small17 n := fun n hn => by simp at hn; rcases hn with rfl | rfl; exact z0; exact hu
  have hg2 : ∀ l ∈ ls ++ [lnW wNow [m.u], lnW wRead [0, m.u]], GoodL noSave l ∧ (10 : UInt8) ∉ l := fun l hl => by
    rcases List.mem_append.1 hl with hl | hl
    · exact hg l hl
    · simp only [List.mem_cons, List.mem_nil_iff, or_false] at hl
      rcases hl with rfl | rfl
      · exact ts_line .now _ (by intro h; cases h) hS
      · exact ts_line .read _ (by intro h; cases h) hR
  have hne : ls ≠ [] := fun e => by rw [e] at hl; simp at hl
  have k1 := script_lns noSave ls hne (fun l hl => (hg l hl).2)
  have k2 := script_lns noSave (ls ++ [lnW wNow [m.u], lnW wRead [0, m.u]]) (by simp) (fun l hl => (hg2 l hl).2)
  have l1 := lnW_len (word := wNow) (ns := [m.u]) (fun n hn => s17I (hS n hn))
  have l2 := lnW_len (word := wRead) (ns := [0, m.u]) (fun n hn => s17I (hR n hn))
  have n2 : (lnsT (ls ++ [lnW wNow [m.u], lnW wRead [0, m.u]])).length ≤ 4096 := by
    rw [lnsT_app]
    simp only [lnsT, List.length_append, List.length_cons, List.length_nil, wNow, wRead] at l1 l2 ⊢
    omega
  have hv := hi.2.2.2.1
  let b : Bn := ⟨true, m.by_, 0, s.p, .zero, out⟩
  have v2 : ∀ (b3 b4 : Bn), b.run noSave .now [m.u] = (b3, 0) → b3.run noSave .read [0, m.u] = (b4, 0) → scriptV noSave (lnsT (ls ++ [lnW wNow [m.u], lnW wRead [0, m.u]])) = (b4.out, 0, 0) := fun b3 b4 e3 e4 => by
    unfold scriptV
    rw [k2, if_neg (by omega), if_neg (by rw [List.length_append, hl]; show ¬ 100 < q + 2 + 2; omega), ho]
    show Bn.lines noSave b (q + 2) (lnW (Cmd.word .now) [m.u] :: lnW (Cmd.word .read) [0, m.u] :: []) = _
    rw [lines_cmd noSave _ _ .now _ _ rfl hS (by rw [e3]), e3, lines_cmd noSave _ _ .read _ _ rfl hR (by rw [e4]), e4]
    rfl
  refine ⟨by rw [k1]; exact fun l hl => (hg l hl).1, by rw [k2]; exact fun l hl => (hg2 l hl).1, hu, out, by omega, ?_, ?_⟩
  · unfold scriptV
    rw [k1, if_neg (by omega), if_neg (by omega)]
    have e := ho []
    rw [List.append_nil] at e
    rw [e]; rfl
  · by_cases hk : knowns m.by_ = []
    · refine .inl ⟨hk, _, v2 (b.say wError [4]) ((b.say wError [4]).say wError [4]) ?_ ?_⟩
      · show Bn.nowT b (mgO (knowns m.by_) m.u 0) = _
        rw [hk, mgO_empty]
        unfold Bn.nowT
        rw [if_neg (by decide)]; rfl
      · show Bn.readT (b.say wError [4]) 0 m.u (mgO (knowns m.by_) m.u 0) = _
        rw [hk, mgO_empty]
        unfold Bn.readT
        rw [if_neg (by decide)]; rfl
    · obtain ⟨x, y, hm, v, x0, x1⟩ := ts_merge g9 h0 hq hr hk
      have v' := vS_true.1 v
      have hE : rdK ⟨0, 1000000, false, false, 0, 0⟩ m.u x y = 0 := rdE_ok (by decide) v (vT_true.2 ⟨by have := hu.1; omega, by have := hu.2; omega⟩) (fun ⟨e, _⟩ => by cases e)
      have hK : readK ⟨0, 1000000, false, false, 0, 0⟩ m.u x y = ⟨0, 1000000, true, false, m.u, x⟩ := by
        have hE' : rdE 0 1000000 false 0 0 m.u x y = 0 := hE
        unfold readK
        rw [if_pos hE']
        simp [rdHeld, rdShown]
      refine .inr ⟨hk, x, y, hm, v, x0, x1, ?_⟩
      rw [v2 (b.say wSpan [x, y]) ((b.say wSpan [x, y]).shows ⟨0, 1000000, true, false, m.u, x⟩) ?_ ?_]
      · simp [Bn.shows, Bn.say, sayL, lnW, clockL, b, numL]
      · show Bn.nowT b (mgO (knowns m.by_) m.u 0) = _
        rw [mgO_of hm]
        unfold Bn.nowT
        rw [if_pos rfl]
      · show Bn.readT (b.say wSpan [x, y]) 0 m.u (mgO (knowns m.by_) m.u 0) = _
        rw [mgO_of hm]
        unfold Bn.readT
        rw [if_pos rfl]
        show (if rdK ⟨0, 1000000, false, false, 0, 0⟩ m.u x y = 0 then _ else _) = _
        rw [if_pos hE]
        show ((b.say wSpan [x, y]).shows (readK ⟨0, 1000000, false, false, 0, 0⟩ m.u x y), _) = _
        rw [hK]
end Go.Proofs.YtiinmhfolfgobaaGreatDoor
