/- Texts joined: Sim9, CalmF -/
import Derived.Test.YtlnboheahbfgfaaGreatJ12
import Derived.Test.YtlnboheahbfgfaaGreatSched
import Derived.Test.YtlnboheahbfgfaaGreatJ32
import Derived.Test.YtlnboheahbfgfaaGreatSim4
import Derived.Test.YtlnboheahbfgfaaGreatJ40
import Derived.Test.YtlnboheahbfgfaaGreatJ10
namespace Go.Proofs.YtlnboheahbfgfaaGreat
open Go.RowKit Go.Shelf Go.Sort
set_option linter.unusedSimpArgs false
set_option linter.unusedVariables false

def lieB (i e : Int) (x : Stp) : Bool := decide (x.src = i) && decide (e < max x.w2 (max (-x.w2) (max x.w3 (-x.w3))))
def liesQ (s : Sch) : Nat → List Int
 | 0 => []
 | q + 1 => if s.xs.any (lieB q (s.es.getD q 0)) then liesQ s q ++ [(q : Int)] else liesQ s q
theorem liesQ_len (s : Sch) : ∀ q, (liesQ s q).length ≤ q
 | 0 => by simp [liesQ]
 | q + 1 => by
  have := liesQ_len s q
  unfold liesQ
  split
  ·rw [List.length_append, List.length_singleton]; omega
  ·omega
theorem anyX_false {p : Stp → Bool} {xs : List Stp} : xs.any p = false ↔ ∀ j, j < xs.length → p (xs.getD j .zero) = false := by
 rw [List.any_eq_false]
 constructor
 ·intro h j hj
  have := h (xs.getD j .zero) (by rw [List.getD_eq_getElem?_getD, List.getElem?_eq_getElem hj]; simp)
  simpa using this
 ·intro h z hz
  obtain ⟨j, hj, rfl⟩ := List.getElem_of_mem hz
  have := h j hj
  rw [List.getD_eq_getElem?_getD, List.getElem?_eq_getElem hj] at this
  simpa using this
def IdxXRel (w : World) (p : Stp → Bool) (xs : List Stp) (len : Nat) (G : Nat) (i : Value) (wr : World) : Prop := ∃ q : Nat, q ≤ len ∧ G = len - q ∧ i = .int .i64 q ∧ (∀ j, j < q → p (xs.getD j .zero) = false) ∧ Below w.heap.size w wr
set_option maxHeartbeats 2000000 in
theorem idxX (k : FuncId) (ek : ∀ args w, (callFunc k args).run Tryz.prog w = .ok (.enter k args) w) (p : Stp → Bool) (c1 c2 : Value) (A : Option Addr) (len cap : Nat) (xs : List Stp) (w : World) (hk : ∀ x ∈ xs, ∀ W, Below w.heap.size w W → Calls Tryz.prog k #[.agg #[.int .i64 x.src, .int .i64 x.tr, .int .i64 x.lo, .int .i64 x.ou, .int .i64 x.ol, .int .i64 x.ho, .int .i64 x.hl, .int .i64 x.ba, .int .i64 x.bl, .int .i64 x.w2, .int .i64 x.w3], c1, c2] W (RB W (.bool (p x)))) (h : StpsAt w A len xs) :
  Calls Tryz.prog 97 #[.slice A len cap, .func (.func k) #[] #[c1, c2]] w (IdxR w (xs.any p)) := by
 have HK := hYd hk; clear hk
 have H := hYd h
 have hl := h.2.1
 have hz := hYd h.1
 clear h
 go_enter Tryz.func97, Tryz.ntmps97
 go_wp2
 go_loopg [8] len (fun G i wr => IdxXRel w p xs len G i wr)
 case atStart => exact ⟨0, by omega, by omega, rfl, by omega, Below.refl _ _⟩
 case round =>
  obtain ⟨q, hq, rfl, rfl, hall, hbel⟩ := hrel
  have HA := hYd hall; clear hall
  by_cases hlt : q < len
  ·obtain ⟨b, off, rfl, hb, d0, d1, d2, d3, d4, d5, d6, d7, d8, d9, d10⟩ := (H.out.below hbel).cells hlt
   have hmem : xs.getD q .zero ∈ xs := by rw [List.getD_eq_getElem?_getD, List.getElem?_eq_getElem (by rw [hz.out]; exact hlt)]; exact List.getElem_mem _
   have r := HK.out _ hmem
   obtain ⟨z, hzz⟩ : ∃ z, xs.getD q .zero = z := ⟨_, rfl⟩
   rw [hzz] at r
   simp only [hzz] at d0 d1 d2 d3 d4 d5 d6 d7 d8 d9 d10
   have HZ := hYd hzz; clear hzz hmem
   rcases hp : p z
   ·rw [hp] at r
    have R := hYd r; clear r
    go_wp2_with fail
    refine (R.out _ hbel).mono ?_
    rintro e w1 ⟨rfl, hb1⟩
    have K1 := kept_call hb1 hbel
    go_wp2
    go_roundg (len - (q + 1))
    case measure => omega
    case rel =>
     refine ⟨q + 1, by omega, by omega, by go_num, fun j hj => ?_, K1⟩
     by_cases e : j = q
     ·subst e; rw [HZ.out]; exact hp
     ·exact HA.out j (by omega)
   ·rw [hp] at r
    have R := hYd r; clear r
    go_wp2_with fail
    refine (R.out _ hbel).mono ?_
    rintro e w1 ⟨rfl, hb1⟩
    have K1 := kept_call hb1 hbel
    go_wp2
    go_ret
    refine IdxR.mk ?_ K1
    rcases ha : xs.any p
    ·have := anyX_false.1 ha q (by rw [hz.out]; exact hlt)
     rw [HZ.out] at this; rw [this] at hp; cases hp
    ·simp
  ·obtain rfl : q = len := by omega
   go_wp2
   go_ret
   refine IdxR.mk ?_ hbel
   rw [anyX_false.2 (fun j hj => HA.out j (by rw [hz.out] at hj; exact hj))]
   rfl
set_option maxHeartbeats 1000000 in
theorem contX (k : FuncId) (ek : ∀ args w, (callFunc k args).run Tryz.prog w = .ok (.enter k args) w) (p : Stp → Bool) (c1 c2 : Value) (A : Option Addr) (len cap : Nat) (xs : List Stp) (w : World) (hk : ∀ x ∈ xs, ∀ W, Below w.heap.size w W → Calls Tryz.prog k #[.agg #[.int .i64 x.src, .int .i64 x.tr, .int .i64 x.lo, .int .i64 x.ou, .int .i64 x.ol, .int .i64 x.ho, .int .i64 x.hl, .int .i64 x.ba, .int .i64 x.bl, .int .i64 x.w2, .int .i64 x.w3], c1, c2] W (RB W (.bool (p x)))) (h : StpsAt w A len xs) :
  Calls Tryz.prog 62 #[.slice A len cap, .func (.func k) #[] #[c1, c2]] w (RB w (.bool (xs.any p))) := by
 have R := hYd (idxX k ek p c1 c2 A len cap xs w hk h); clear hk h
 go_enter Tryz.func62, Tryz.ntmps62
 go_wp2_with fail
 refine R.out.mono ?_
 rintro e w1 ⟨v, rfl, hv, hb⟩
 rw [← hv]
 go_wp2
 go_ret
 exact ⟨rfl, hb⟩
theorem run_max4 (P : Program) (a b c d : Int) (ats : Array TypeId) (ty : TypeId) (W : World) : (Builtin.max_ ats ty #[.int .i64 a, .int .i64 b, .int .i64 c, .int .i64 d]).run P W = .ok (.int .i64 (max a (max b (max c d)))) W := by
 have h2 : ∀ (x y : Int) (W : World), (Builtin.max2 (.int .i64 x) (.int .i64 y)).run P W = .ok (.int .i64 (max x y)) W := by
  intro x y W
  simp [Builtin.max2, go_sem]
  split <;> omega
 simp only [Builtin.max_, List.foldlM]
 simp [go_sem, h2]
set_option maxRecDepth 100000 in
set_option maxHeartbeats 2000000 in
theorem lie1_any (gi gm : Nat) (i e : Int) (x : Stp) (w : World) (hi : Blk w gi 3 #[.int .i64 i]) (hm : Blk w gm 3 #[.int .i64 e]) (z2 : -1125899906842624 ≤ x.w2 ∧ x.w2 ≤ 1125899906842624) (z3 : -1125899906842624 ≤ x.w3 ∧ x.w3 ≤ 1125899906842624) :
  Calls Tryz.prog 63 #[.agg #[.int .i64 x.src, .int .i64 x.tr, .int .i64 x.lo, .int .i64 x.ou, .int .i64 x.ol, .int .i64 x.ho, .int .i64 x.hl, .int .i64 x.ba, .int .i64 x.bl, .int .i64 x.w2, .int .i64 x.w3], .pointer (some ⟨gi, 0, none⟩), .pointer (some ⟨gm, 0, none⟩)] w (RB w (.bool (lieB i e x))) := by
 obtain ⟨src, tr, lo, ou, ol, ho, hl, ba, bl, w2', w3'⟩ := x
 dsimp only at z2 z3 ⊢
 have ci := hi.cell; have li := hi.lt; have cm := hm.cell; have lm := hm.lt
 have wn2 : IntKind.i64.wrap (-w2') = -w2' := IntWalk.i64_in _ (by omega)
 have wn3 : IntKind.i64.wrap (-w3') = -w3' := IntWalk.i64_in _ (by omega)
 unfold lieB
 dsimp only
 have hmx := fun ats ty W => run_max4 Tryz.prog w2' (-w2') w3' (-w3') ats ty W
 obtain ⟨mx, hmx0⟩ : ∃ mx, max w2' (max (-w2') (max w3' (-w3'))) = mx := ⟨_, rfl⟩
 simp only [hmx0] at hmx
 rw [hmx0]
 clear hmx0
 by_cases h1 : src = i
 ·subst h1
  have g1 : (src == src) = true := by simp
  have g2 : decide (src = src) = true := decide_eq_true rfl
  rw [g2, Bool.true_and]
  go_enter Tryz.func63, Tryz.ntmps63
  go_wp2
  go_ret
  exact ⟨rfl, bl0⟩
 ·have g1 : (src == i) = false := by simpa using h1
  have g2 : decide (src = i) = false := decide_eq_false h1
  rw [g2, Bool.false_and]
  go_enter Tryz.func63, Tryz.ntmps63
  go_wp2
  go_ret
  exact ⟨rfl, bl0⟩
def LiesR (w : World) (s : Sch) (e : Ending) (w' : World) : Prop := (chkE s ≠ 0 → e = .returned (.tuple #[.slice none 0 0, .int .i64 (chkE s)])) ∧ (chkE s = 0 → ∃ (A : Option Addr) (c : Nat), e = .returned (.tuple #[.slice A (liesQ s s.es.length).length c, .int .i64 0]) ∧ w'.ownsRow w.heap.size 3 1 (.slice A (liesQ s s.es.length).length c) (liesQ s s.es.length).length (ints (liesQ s s.es.length))) ∧ Below w.heap.size w w'
theorem own_weaken {w : World} {b B n size : Nat} {T : TypeId} {v : Value} {xs : List Value} (h : w.ownsRow B T size v n xs) (hb : b ≤ B) : w.ownsRow b T size v n xs := by
 refine ⟨h.1, ?_⟩
 rcases h.2 with hq | ⟨g, cap, cur, e, hB, rest⟩
 ·exact .inl hq
 ·exact .inr ⟨g, cap, cur, e, Nat.le_trans hb hB, rest⟩
def LsRel (w w1 : World) (s : Sch) (n : Nat) (sc : Array Value) (G : Nat) (v i : Value) (wr : World) : Prop := ∃ (q m : Nat) (A' : Option Addr) (c' : Nat), q ≤ n ∧ G = n - q ∧ i = .int .i64 q ∧ v = .slice A' m c' ∧ m = (liesQ s q).length ∧ wr.ownsRow w1.heap.size 3 1 (.slice A' m c') m (ints (liesQ s q)) ∧ w1.heap.size ≤ wr.heap.size ∧ Blk wr w.heap.size 54 sc ∧ Below w.heap.size w wr
set_option maxRecDepth 100000 in
set_option maxHeartbeats 8000000 in
theorem ilies_any (s : Sch) (A SA : Option Addr) (c sc : Nat) (w : World) (h : SchAt w s A SA) :
  Calls Tryz.prog 29 #[.agg #[.int .i64 s.sta, .int .i64 s.loc, .int .i64 s.p, .int .i64 s.li, .int .i64 s.ai, .slice A s.es.length c, .slice SA s.xs.length sc]] w (LiesR w s) := by
 have HH := hYd h
 have RC := hYd (fun W h => icheck_any s A SA c sc W h)
 clear h
 obtain ⟨sta, loc, p, li, ai, es, xs⟩ := s
 dsimp only at RC ⊢
 obtain ⟨n, hn⟩ : ∃ n, n = es.length := ⟨_, rfl⟩
 obtain ⟨nx, hnx⟩ : ∃ n, n = xs.length := ⟨_, rfl⟩
 obtain ⟨er, her⟩ : ∃ er, chkE ⟨sta, loc, p, li, ai, es, xs⟩ = er := ⟨_, rfl⟩
 simp only [← hn, ← hnx, her] at RC ⊢
 have HN := hYd hn; have HX := hYd hnx; have HER := hYd her; clear hn hnx her
 by_cases he0 : er = 0
 ·subst he0
  go_enter Tryz.func29, Tryz.ntmps29
  go_wp2_with fail
  refine (RC.out _ (HH.out.below bl0)).mono ?_
  rintro e v1 ⟨rfl, hb⟩
  have hq : Past [] _ v1 := Past.below hb
  clear hb
  have Kv1 : Past [] w v1 := Past.trans pa1 hq
  have Zv1 : w.heap.size ≤ v1.heap.size := Nat.le_trans (by first | exact Nat.le_refl _ | omega | (simp <;> omega)) hq.1
  have bB' : Blk v1 (w.heap.size) 54 #[.int .i64 sta, .int .i64 loc, .int .i64 p, .int .i64 li, .int .i64 ai, .slice A n c, .slice SA nx sc] := hq.blk (bn0) (by simp <;> omega)
  clear hq
  have bB := bB'; clear bB'
  obtain ⟨cB, fB, lB, eB, kB⟩ := Blk.facts bB
  have oB := lB
  clear RC
  have hn8 : n ≤ 8 := by have := (chkE_0 HER.out).2.1; rw [HN.out]; exact this
  have HB := hYd bB; have HKv := hYd (Past.toBelow Kv1)
  have HRG : Hid (∀ x ∈ xs, (-1125899906842624 ≤ x.w2 ∧ x.w2 ≤ 1125899906842624) ∧ (-1125899906842624 ≤ x.w3 ∧ x.w3 ≤ 1125899906842624)) := hYd (fun x hx => by have h9 := Stp.rg_all (stpE_0 ((chkE_0 HER.out).2.2.2.2 x hx)).1; exact ⟨h9.2.2.2.2.2.2.2.2.2.2.1, h9.2.2.2.2.2.2.2.2.2.2.2⟩)
  go_wp2
  clear bB cB fB lB eB kB
  go_loopg [5, 16] n (fun G v i wr => LsRel w v1 (⟨sta, loc, p, li, ai, es, xs⟩ : Sch) n #[.int .i64 sta, .int .i64 loc, .int .i64 p, .int .i64 li, .int .i64 ai, .slice A n c, .slice SA nx sc] G v i wr)
  case atStart => exact ⟨0, 0, none, 0, by omega, by omega, rfl, rfl, rfl, World.ownsRow_nil _ _ _ _, Nat.le_refl _, HB.out, HKv.out⟩
  case round =>
   obtain ⟨q, m, A', c', hq, rfl, rfl, rfl, hm, hrow, hBw, bB, KR⟩ := hrel
   have ZR := KR.size
   clear HB HKv
   have HROW := hYd hrow; have HM := hYd hm; have HKR := hYd KR
   have hrl := World.ownsRow.lt hrow
   have hml : m ≤ q := by rw [hm]; exact liesQ_len _ _
   clear hrow hm
   have cB := bB.cell; have lB := bB.lt
   have HB := hYd bB; clear bB
   by_cases hlt : q < n
   ·have gq : decide ((q : Int) < (n : Int)) = true := decide_eq_true (by omega)
    have gqn : decide (q < n) = true := decide_eq_true hlt
    have wq9 : IntKind.i64.wrap ((q : Int) + 1) = ((q + 1 : Nat) : Int) := by rw [IntWalk.i64_in _ (by omega)]; omega
    have hes : NsAt wr A n es := by have h9 : NsAt wr A es.length es := (HH.out.below KR).1; rw [← HN.out] at h9; exact h9
    obtain ⟨bk, off, rfl, lbk, hcb⟩ := hes.2.2 (by omega)
    have ce := hcb q hlt
    obtain ⟨ev, hev⟩ : ∃ ev, es.getD q 0 = ev := ⟨_, rfl⟩
    rw [hev] at ce
    clear hes hcb
    obtain ⟨b9, hb9⟩ : ∃ b9, xs.any (lieB q ev) = b9 := ⟨_, rfl⟩
    have hst : liesQ (⟨sta, loc, p, li, ai, es, xs⟩ : Sch) (q + 1) = if b9 then liesQ (⟨sta, loc, p, li, ai, es, xs⟩ : Sch) q ++ [(q : Int)] else liesQ (⟨sta, loc, p, li, ai, es, xs⟩ : Sch) q := by
     show (if xs.any (lieB q (es.getD q 0)) then _ else _) = _
     rw [hev, hb9]
    have HST := hYd hst; clear hst hev
    have RX := hYd (fun W (hB : Below wr.heap.size wr W) (gi gm : Nat) (h1 : Blk W gi 3 #[.int .i64 q]) (h2 : Blk W gm 3 #[.int .i64 ev]) => hb9 ▸ HX.out ▸ contX 63 (enters_of Tryz.func63 (by kernel_rfl) rfl) (lieB q ev) (.pointer (some ⟨gi, 0, none⟩)) (.pointer (some ⟨gm, 0, none⟩)) SA xs.length sc xs W (fun x hx W' hW' => lie1_any gi gm q ev x W' (Blk.keep hW' h1) (Blk.keep hW' h2) (HRG.out x hx).1 (HRG.out x hx).2) ((HH.out.below KR).2.below hB))
    clear hb9 KR
    go_wp2_with fail
    refine (RX.out _ bl0 wr.heap.size (wr.heap.size + 1) (by first | exact Blk.alloc (Blk.new _ _ _) _ | exact (Blk.new _ _ _).alloc _) (by first | exact Blk.new1 _ _ _ _ | exact Blk.newE (by simp))).mono ?_
    rintro e w5 ⟨rfl, hb5⟩
    have S5 : Below wr.heap.size wr w5 := kept_call hb5 bl0
    have Z5 := S5.size
    have bI : Blk w5 wr.heap.size 3 #[.int .i64 q] := Blk.keep hb5 (by first | exact Blk.alloc (Blk.new _ _ _) _ | exact (Blk.new _ _ _).alloc _)
    have bB5 := HB.out.below S5
    have K5 := kept_call S5 HKR.out
    have R5 : w5.ownsRow v1.heap.size 3 1 (.slice A' m c') m (ints (liesQ (⟨sta, loc, p, li, ai, es, xs⟩ : Sch) q)) := (Past.below (X := []) S5).own HROW.out (by simp)
    have H5 := hYd (And.intro R5 (And.intro bB5 K5))
    have cI := bI.cell; have lI := bI.lt
    have cB5 := bB5.cell; have lB5 := bB5.lt
    clear hb5 S5 RX R5 bB5 K5
    cases b9 with
    | false =>
     have HST2 := hYd (HST.out.trans (by simp) : liesQ (⟨sta, loc, p, li, ai, es, xs⟩ : Sch) (q + 1) = liesQ (⟨sta, loc, p, li, ai, es, xs⟩ : Sch) q)
     go_wp2
     go_roundg (n - (q + 1))
     case measure => omega
     case rel => exact ⟨q + 1, m, A', c', by omega, by omega, by go_num, rfl, by rw [HST2.out]; exact HM.out, by rw [HST2.out]; exact H5.out.1, by omega, H5.out.2.1, H5.out.2.2⟩
    | true =>
     have HST2 := hYd (HST.out.trans (by simp) : liesQ (⟨sta, loc, p, li, ai, es, xs⟩ : Sch) (q + 1) = liesQ (⟨sta, loc, p, li, ai, es, xs⟩ : Sch) q ++ [(q : Int)])
     obtain ⟨i0, hif, hz0, hz1, hz2⟩ := info_parts infoInt
     generalize hv : (Value.slice A' m c') = v9 at *
     have hrl2 := World.ownsRow.lt H5.out.1
     clear hv
     go_wp2_with (at_builtin; refine wpList_append_lies _ rfl _ _ 22 rfl v1.heap.size 3 i0 (.int .i64 0) 1 8 Tryz.underlying22 hif hz0 hz1 hz2 rfl (by decide) v9 m (ints (liesQ (⟨sta, loc, p, li, ai, es, xs⟩ : Sch) q)) rfl ((Past.below (X := []) ((Below.refl _ _).alloc (Nat.le_refl _) _)).own H5.out.1 (by simp)) ⟨w5.heap.size, 0, none⟩ 1 1 [.int .i64 q] rfl rfl (World.news_of_block (t := 3) (fr := (0, 0)) (Blk.new _ _ _)) ?c2 (by decide) ?c3 ?c4 ?c5 _ rfl ?_)
     case c2 => first | rfl | (intro u hu; simp at hu; subst hu; rfl)
     case c3 => unfold maxLen; omega
     case c4 => omega
     case c5 => first | omega | (simp <;> omega)
     intro g7 cp7 w7 hown hgrow hlie hglt
     have K7 : Below w.heap.size w w7 := (H5.out.2.2.alloc (Below.size H5.out.2.2) _).grown hgrow (by simp; omega) (fun k hk => by have := hrl2 k hk; omega)
     have bB7 : Blk w7 w.heap.size 54 #[.int .i64 sta, .int .i64 loc, .int .i64 p, .int .i64 li, .int .i64 ai, .slice (some ⟨bk, off, none⟩) n c, .slice SA nx sc] := (hgrow.block _ (by simp; omega) (fun e => by have h9 := hrl2 _ e.symm; omega)).trans (H5.out.2.1.alloc _)
     have R7 : w7.ownsRow v1.heap.size 3 1 (.slice (some ⟨g7, 0, none⟩) (m + 1) cp7) (m + 1) (ints (liesQ (⟨sta, loc, p, li, ai, es, xs⟩ : Sch) (q + 1))) := by rw [HST2.out, ints_snoc]; exact hown
     have hz7 := hgrow.size; simp only [World.size_alloc] at hz7
     have H7 := hYd (And.intro K7 (And.intro R7 bB7))
     clear hown hgrow hlie hglt K7 R7 bB7
     go_wp2
     go_roundg (n - (q + 1))
     case measure => omega
     case rel => exact ⟨q + 1, m + 1, _, _, by omega, by omega, by go_num, rfl, by rw [HST2.out, List.length_append, List.length_singleton, ← HM.out], H7.out.2.1, by omega, H7.out.2.2, H7.out.1⟩
   ·obtain rfl : q = n := by omega
    have gq : decide ((q : Int) < (q : Int)) = false := decide_eq_false (by omega)
    have gqn : decide (q < q) = false := decide_eq_false (by omega)
    go_wp2
    refine bodyPost_ret (v := .tuple #[.slice A' m c', .int .i64 0]) (by simp [results, Tryz.results29, go_sem, *]) rfl ?_
    refine ⟨fun h => absurd HER.out h, fun _ => ⟨A', c', ?_, ?_⟩, KR⟩
    ·show _ = Ending.returned (.tuple #[.slice A' (liesQ _ es.length).length c', .int .i64 0]); rw [← HN.out, ← HM.out]
    ·show World.ownsRow _ _ _ _ (.slice A' (liesQ _ es.length).length c') (liesQ _ es.length).length (ints (liesQ _ es.length)); rw [← HN.out, ← HM.out]; exact own_weaken HROW.out (by omega)
 ·have e1 : (er == 0) = false := by simpa using he0
  have e2 : (er != 0) = true := by simpa using he0
  go_enter Tryz.func29, Tryz.ntmps29
  go_wp2_with fail
  refine (RC.out _ (HH.out.below bl0)).mono ?_
  rintro e v1 ⟨rfl, hb⟩
  have hq : Past [] _ v1 := Past.below hb
  clear hb
  have Kv1 : Past [] w v1 := Past.trans pa1 hq
  have Zv1 : w.heap.size ≤ v1.heap.size := Nat.le_trans (by first | exact Nat.le_refl _ | omega | (simp <;> omega)) hq.1
  have bB' : Blk v1 (w.heap.size) 54 #[.int .i64 sta, .int .i64 loc, .int .i64 p, .int .i64 li, .int .i64 ai, .slice A n c, .slice SA nx sc] := hq.blk (bn0) (by simp <;> omega)
  clear hq
  have bB := bB'; clear bB'
  obtain ⟨cB, fB, lB, eB, kB⟩ := Blk.facts bB
  have oB := lB
  go_wp2
  refine bodyPost_ret (v := .tuple #[.slice none 0 0, .int .i64 er]) (by simp [results, Tryz.results29, go_sem, *]) rfl ?_
  exact ⟨fun _ => by rw [HER.out], fun h => absurd (HER.out.symm.trans h) he0, Past.toBelow pa1⟩
end Go.Proofs.YtlnboheahbfgfaaGreat
namespace Go.Proofs.YtlnboheahbfgfaaGreat
open Go
set_option linter.unusedSimpArgs false
set_option linter.unusedVariables false

def calmRow (acc : List Nat) (o : Oper) : Nat := o.after.toList.foldl (fun m e => if Region.binds .any e then (m ||| 2 ^ e.on) ||| acc.getD e.on 0 else m) 0
def dstBit (s : Nat) (o : Oper) : Nat := match o.dst with | none => s | some d => s ||| 2 ^ d
def dstNew (s : Nat) (o : Oper) : Bool := match o.dst with | none => true | some d => !s.testBit d
def calmGo : List Oper → List (List Nat) → Nat → List Nat → Nat → Option (List Nat)
 | [], _, _, acc, _ => some acc
 | o :: l, Ds, k, acc, s => if (o.after.toList.all fun e => !Region.binds .any e || decide (e.on < k)) && (dstNew s o && (Ds.headD []).all fun j => (calmRow acc o).testBit j) then calmGo l Ds.tail (k + 1) (acc ++ [calmRow acc o]) (dstBit s o) else none
def calmBits : List Oper → List Nat → List Nat
 | [], acc => acc
 | o :: l, acc => calmBits l (acc ++ [calmRow acc o])
def calmBF (l : List Oper) (Ds : List (List Nat)) (chain : List Nat) : Bool := match calmGo l Ds 0 [] 0 with
 | none => false
 | some M => (List.range chain.length).all (fun m => (List.range m).all fun m' => (M.getD (chain.getD m 0) 0).testBit (chain.getD m' 0)) && chain.all (fun i => decide (i < l.length))

theorem foldl_bit {acc : List Nat} {j : Nat} : ∀ (l : List Edge) (m : Nat), (l.foldl (fun m e => if Region.binds .any e then (m ||| 2 ^ e.on) ||| acc.getD e.on 0 else m) m).testBit j = true → m.testBit j = true ∨ ∃ e ∈ l, Region.binds .any e = true ∧ (e.on = j ∨ (acc.getD e.on 0).testBit j = true)
 | [], m, h => .inl h
 | e :: l, m, h => by
  rcases foldl_bit l _ h with h1 | ⟨e', h1, h2⟩
  ·dsimp only at h1
   by_cases hb : Region.binds .any e = true
   ·rw [if_pos hb, Nat.testBit_or, Nat.testBit_or, Bool.or_eq_true, Bool.or_eq_true, Nat.testBit_two_pow, decide_eq_true_eq] at h1
    rcases h1 with (h1 | h1) | h1
    ·exact .inl h1
    ·exact .inr ⟨e, by simp, hb, .inl h1⟩
    ·exact .inr ⟨e, by simp, hb, .inr h1⟩
   ·rw [if_neg hb] at h1; exact .inl h1
  ·exact .inr ⟨e', by simp [h1], h2⟩
def BitsOk (ops : Array Oper) (acc : List Nat) : Prop := ∀ i j, (acc.getD i 0).testBit j = true → ∀ fuel, i < fuel → calmReach ops fuel i j = true
theorem bits_next {ops : Array Oper} {acc : List Nat} (h : BitsOk ops acc) {o : Oper} (ho : ops[acc.length]? = some o) : BitsOk ops (acc ++ [calmRow acc o]) := by
 intro i j hb fuel hf
 rw [List.getD_eq_getElem?_getD, List.getElem?_append] at hb
 split at hb
 ·rename_i hi
  exact h i j (by rw [List.getD_eq_getElem?_getD]; exact hb) fuel hf
 ·rename_i hi
  by_cases e : i = acc.length
  ·subst e
   rw [Nat.sub_self, List.getElem?_cons_zero, Option.getD_some] at hb
   unfold calmRow at hb
   rcases foldl_bit _ _ hb with h1 | ⟨e, h1, h2, h3⟩
   ·simp at h1
   ·cases fuel with
    | zero => omega
    | succ f =>
     have hm : e ∈ o.after := by rw [← Array.mem_toList_iff]; exact h1
     obtain ⟨n, hn, he⟩ := Array.getElem_of_mem hm
     simp only [calmReach, ho, Array.any_eq_true, Bool.and_eq_true, Bool.or_eq_true, beq_iff_eq]
     refine ⟨n, hn, by rw [he]; exact h2, ?_⟩
     rw [he]
     rcases h3 with h3 | h3
     ·exact .inl h3
     ·refine .inr (h e.on j h3 f ?_)
      have : e.on < acc.length := by
       rcases Nat.lt_or_ge e.on acc.length with q | q
       ·exact q
       ·rw [List.getD_eq_getElem?_getD, List.getElem?_eq_none q] at h3; simp at h3
      omega
  ·have : ([calmRow acc o] : List Nat)[i - acc.length]? = none := List.getElem?_eq_none (by simp; omega)
   rw [this] at hb; simp at hb
theorem bits_ok {ops : Array Oper} : ∀ (l l0 : List Oper) (acc : List Nat), ops.toList = l0 ++ l → acc.length = l0.length → BitsOk ops acc → BitsOk ops (calmBits l acc)
 | [], _, _, _, _, h => h
 | o :: l, l0, acc, he, hl, h => by
  refine bits_ok l (l0 ++ [o]) _ (by rw [he]; simp) (by simp [hl]) (bits_next h ?_)
  rw [← Array.getElem?_toList, he, hl]; simp
theorem go_parts : ∀ (l : List Oper) (Ds : List (List Nat)) (k : Nat) (acc : List Nat) (s : Nat) (M : List Nat), calmGo l Ds k acc s = some M → M = calmBits l acc ∧
  (∀ i o, l[i]? = some o → (∀ e ∈ o.after.toList, Region.binds .any e = true → e.on < k + i) ∧ (∀ d, o.dst = some d → s.testBit d = false) ∧ (∀ i' o', i' < i → l[i']? = some o' → ∀ d, o.dst = some d → o'.dst ≠ some d) ∧ (∀ j ∈ Ds.getD i [], (M.getD (acc.length + i) 0).testBit j = true)) ∧ ∀ p, p < acc.length → M.getD p 0 = acc.getD p 0
 | [], Ds, k, acc, s, M, h => by
  injection h with h; subst h
  exact ⟨rfl, fun i o h => by simp at h, fun _ _ => rfl⟩
 | o :: l, Ds, k, acc, s, M, h => by
  unfold calmGo at h
  split at h
  ·rename_i hc
   simp only [Bool.and_eq_true, List.all_eq_true, Bool.or_eq_true, Bool.not_eq_true', decide_eq_true_eq] at hc
   obtain ⟨h1, h2, h3⟩ := hc
   obtain ⟨e1, e2, e3⟩ := go_parts l Ds.tail (k + 1) _ _ M h
   refine ⟨e1, fun i o' ho => ?_, fun p hp => ?_⟩
   ·cases i with
    | zero =>
     simp only [List.getElem?_cons_zero, Option.some.injEq] at ho
     subst ho
     refine ⟨fun e he hb => ?_, fun d hd => ?_, fun i' _ hi => by omega, fun j hj => ?_⟩
     ·rcases h1 e he with q | q
      ·rw [q] at hb; cases hb
      ·exact q
     ·unfold dstNew at h2; rw [hd] at h2; simpa using h2
     ·have := e3 acc.length (by simp)
      rw [Nat.add_zero, this, List.getD_eq_getElem?_getD, List.getElem?_append_right (Nat.le_refl _), Nat.sub_self]
      refine h3 j ?_
      cases Ds with
      | nil => simp at hj
      | cons d Ds => simpa using hj
    | succ i =>
     rw [List.getElem?_cons_succ] at ho
     obtain ⟨q1, q2, q3, q4⟩ := e2 i o' ho
     refine ⟨fun e he hb => by have := q1 e he hb; omega, fun d hd => ?_, fun i' o2 hi h2' d hd => ?_, fun j hj => ?_⟩
     ·have := q2 d hd
      unfold dstBit at this
      split at this
      ·exact this
      ·rw [Nat.testBit_or, Bool.or_eq_false_iff] at this; exact this.1
     ·cases i' with
      | zero =>
       simp only [List.getElem?_cons_zero, Option.some.injEq] at h2'
       subst h2'
       intro hx
       have := q2 d hd
       unfold dstBit at this
       rw [hx] at this
       simp only [Nat.testBit_or, Nat.testBit_two_pow, decide_true, Bool.or_true] at this
       cases this
      | succ i' =>
       rw [List.getElem?_cons_succ] at h2'
       exact q3 i' o2 (by omega) h2' d hd
     ·have := q4 j (by cases Ds with | nil => simp at hj | cons d Ds => simpa using hj)
      rw [List.length_append, List.length_singleton] at this
      rw [show acc.length + (i + 1) = acc.length + 1 + i by omega]; exact this
   ·rw [e3 p (by simp; omega), List.getD_eq_getElem?_getD, List.getElem?_append_left hp, ← List.getD_eq_getElem?_getD]
  ·cases h
theorem calmB_of {l : List Oper} {Ds : List (List Nat)} {chain : List Nat} (h : calmBF l Ds chain = true) : calmB l.toArray Ds chain = true := by
 unfold calmBF at h
 split at h
 ·cases h
 ·rename_i M hM
  obtain ⟨e1, e2, -⟩ := go_parts _ _ _ _ _ _ hM
  have hok : BitsOk l.toArray M := e1 ▸ bits_ok l [] [] rfl rfl (fun i j h => by simp at h)
  simp only [Bool.and_eq_true, List.all_eq_true, List.mem_range, decide_eq_true_eq] at h
  obtain ⟨h4, h5⟩ := h
  have hget : ∀ i, i < l.length → l[i]? = some (l.getD i default) := fun i hi => by rw [List.getElem?_eq_getElem hi, List.getD_eq_getElem?_getD, List.getElem?_eq_getElem hi]; rfl
  unfold calmB
  simp only [Bool.and_eq_true, List.all_eq_true, List.mem_range, List.size_toArray, decide_eq_true_eq]
  refine ⟨⟨⟨⟨fun i hi => ?_, fun i hi j hj => ?_⟩, fun i hi j hj => ?_⟩, fun m hm m' hm' => ?_⟩, h5⟩
  ·obtain ⟨q1, -⟩ := e2 i _ (hget i hi)
   rw [List.getElem?_toArray, hget i hi, Option.map_some, Option.getD_some, Array.all_eq_true]
   intro n hn
   rcases hb : Region.binds .any (l.getD i default).after[n] with _ | _
   ·rfl
   ·have := q1 _ (by rw [Array.mem_toList_iff]; exact Array.getElem_mem hn) hb
    simp only [Bool.not_true, Bool.false_or, decide_eq_true_eq]; omega
  ·obtain ⟨-, -, q3, -⟩ := e2 i _ (hget i hi)
   rw [List.getElem?_toArray, List.getElem?_toArray, hget i hi, hget j (by omega), Option.bind_some, Option.bind_some]
   split
   ·rename_i d d' hd hd'
    have := q3 j _ hj (hget j (by omega)) d hd
    rw [hd'] at this
    rw [bne_iff_ne]; intro e; subst e; exact this rfl
   ·rfl
  ·obtain ⟨-, -, -, q4⟩ := e2 i _ (hget i hi)
   have := q4 j hj
   rw [List.length_nil, Nat.zero_add] at this
   exact hok i j this _ hi
  ·exact hok _ _ (h4 m hm m' hm') _ (h5 _ (by rw [List.getD_eq_getElem?_getD, List.getElem?_eq_getElem hm]; exact List.getElem_mem _))
theorem calmReach_of {l : List Oper} {i j : Nat} (hi : i < l.length) (h : ((calmBits l []).getD i 0).testBit j = true) : calmReach l.toArray l.length i j = true :=
 (bits_ok (ops := l.toArray) l [] [] rfl rfl (fun i j h => by simp at h)) i j h _ hi
end Go.Proofs.YtlnboheahbfgfaaGreat
