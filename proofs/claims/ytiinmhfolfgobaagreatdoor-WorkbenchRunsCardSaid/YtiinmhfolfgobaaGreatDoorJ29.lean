/- Lemmas. -/
import Derived.Lib.ItoaLen
import Derived.Lib.Hide
import Derived.Laws.MakeOwn
import Derived.Test.YtiinmhfolfgobaaGreatDoorJ27
import Derived.Test.YtiinmhfolfgobaaGreatDoorJ11
import Derived.Test.YtiinmhfolfgobaaGreatDoorWkP
import Derived.Test.YtiinmhfolfgobaaGreatDoorJ4
import Derived.Test.YtiinmhfolfgobaaGreatDoorJ10
import Derived.Test.YtiinmhfolfgobaaGreatDoorJ20
import Derived.Test.YtiinmhfolfgobaaGreatDoorJ9
import Derived.Test.YtiinmhfolfgobaaGreatDoorJ24
import Derived.Test.YtiinmhfolfgobaaGreatDoorJ23
import Derived.Test.YtiinmhfolfgobaaGreatDoorJ25
set_option linter.unusedVariables false
set_option linter.unusedSimpArgs false
namespace Go.Proofs.YtiinmhfolfgobaaGreatDoor
open Go.RowKit Go.Lib
set_option maxHeartbeats 32000000
set_option maxRecDepth 100000
def PowB (B : Nat) (w : World) : Prop := Pow10 w ∧ B ≤ w.heap.size ∧ 7 < B
theorem PowB.pastT {B : Nat} {Ts : List TypeId} {w w' : World} (h : PowB B w) (hp : PastT B Ts w w') : PowB B w' := by
 refine ⟨?_, Nat.le_trans h.2.1 hp.1, h.2.2⟩
 have h1 := h.1
 unfold Pow10 TabIs at h1 ⊢
 simp only [World.var?, pow10_global, Option.bind_some] at h1 ⊢
 rw [hp.2.2.2.2 _ (by have := h.2.1; have := h.2.2; omega) (.inl h.2.2)]
 exact h1
theorem PowB.below {B : Nat} {w w' : World} (h : PowB B w) (hb : Below w.heap.size w w') : PowB B w' := h.pastT (Ts := []) (PastT.below hb)
def NumsR (w : World) (A : Option Addr) (len : Nat) (zs : List Int) : Prop := zs.length = len ∧ (0 < len → ∃ gA cur, A = some ⟨gA, 0, none⟩ ∧ Blk w gA 3 cur ∧ ∀ j, j < len → cur[j]? = some (.int .i64 (zs.getD j 0)))
theorem NumsR.pastT {B : Nat} {Ts : List TypeId} {w w' : World} {A : Option Addr} {len : Nat} {zs : List Int} (h : NumsR w A len zs) (hp : PastT B Ts w w') (hT : 3 ∉ Ts) : NumsR w' A len zs :=
 ⟨h.1, fun h0 => by obtain ⟨gA, cur, e, hb, hc⟩ := h.2 h0; exact ⟨gA, cur, e, hp.blk hb hT, hc⟩⟩
theorem NumsR.below {w w' : World} {A : Option Addr} {len : Nat} {zs : List Int} (h : NumsR w A len zs) (hb : Below w.heap.size w w') : NumsR w' A len zs := h.pastT (B := 0) (Ts := []) (PastT.below hb) Ys
theorem NumsR.cell {w : World} {A : Option Addr} {len : Nat} {zs : List Int} (h : NumsR w A len zs) (j : Nat) (hj : j < len) : ∃ gA, A = some ⟨gA, 0, none⟩ ∧ gA < w.heap.size ∧ ∀ j, j < len → w.cell? ⟨gA, j, none⟩ = some (.int .i64 (zs.getD j 0)) := by
 obtain ⟨gA, cur, e, hb, hc⟩ := h.2 Yo
 exact ⟨gA, e, hb.lt, fun j hj => (hb.cell j).trans (hc j hj)⟩
theorem NumsR.nil (w : World) (A : Option Addr) : NumsR w A 0 [] := ⟨rfl, fun h => by omega⟩
def numL (n : Int) : List UInt8 := 32 :: itoa n
theorem sayL_eq (word : List UInt8) (ns : List Int) : sayL word ns = word ++ ns.flatMap numL ++ [10] := rfl
def smallI (n : Int) : Prop := -9223372036854775808 ≤ n ∧ n ≤ 9223372036854775807
theorem numL_len {n : Int} (h : smallI n) : (numL n).length ≤ 22 := by have := itoa_length_le n h.1 h.2; simp [numL]; omega
theorem flat_len : ∀ {ns : List Int}, (∀ n ∈ ns, smallI n) → (ns.flatMap numL).length ≤ 22 * ns.length
 | [], _ => by simp
 | n :: ns, h => by
  have h1 := numL_len (h n Ys)
  have h2 := flat_len (ns := ns) (fun m hm => h m (by simp [hm]))
  simp only [List.flatMap_cons, lla, List.length_cons]; omega
theorem sayL_len {word : List UInt8} {ns : List Int} (h : ∀ n ∈ ns, smallI n) : (sayL word ns).length ≤ word.length + 22 * ns.length + 1 := by
 have := flat_len h
 rw [sayL_eq]; simp only [lla, List.length_singleton]; omega
theorem take_nextI (zs : List Int) (q : Nat) (h : q < zs.length) : zs.take (q + 1) = zs.take q ++ [zs.getD q 0] := by
 rw [List.take_add_one, Y9 h, Y8, Y9 h]; rfl
def SayRel (B g : Nat) (w : World) (x0 x1 x2 x3 x4 x5 x6 x7 x8 x9 : Value) (l : List UInt8) (ns : List Int) (G : Nat) (i : Value) (wr : World) : Prop := ∃ (q : Nat) (v : Value), q ≤ ns.length ∧ G = ns.length - q ∧ i = .int .i64 q ∧ Blk wr g 76 #[x0, x1, x2, x3, x4, x5, x6, x7, x8, x9, .pointer (some ⟨g, 10, none⟩), v] ∧ BufAt B wr v (l ++ (ns.take q).flatMap numL) ∧ PastT B [5, 76] w wr
theorem say_core (B g : Nat) (x0 x1 x2 x3 x4 x5 x6 x7 x8 x9 p v : Value) (l : List UInt8) (word : ByteArray) (A : Option Addr) (len cap : Nat) (ns : List Int) (w : World) (h : Blk w g 76 #[x0, x1, x2, x3, x4, x5, x6, x7, x8, x9, p, v]) (hp : p = .pointer none ∨ p = .pointer (some ⟨g, 10, none⟩)) (hv : BufAt B w v l) (hB : B ≤ g) (hn : NumsR w A len ns) (hsm : ∀ n ∈ ns, smallI n) (hpow : PowB B w) (hl : l.length + word.size + 22 * ns.length + 1 ≤ 1000000) :
  Calls Tryz.prog 132 #[.pointer (some ⟨g, 0, none⟩), .string word, .slice A len cap] w (fun e w' => e = .returned (.tuple #[]) ∧ ∃ v', Blk w' g 76 #[x0, x1, x2, x3, x4, x5, x6, x7, x8, x9, .pointer (some ⟨g, 10, none⟩), v'] ∧ BufAt B w' v' (l ++ sayL word.data.toList ns) ∧ PastT B [5, 76] w w') := by
 have HN := Yh hn; have HSM := Yh hsm; have HPW := Yh hpow; clear hn hsm hpow
 have hgl := h.lt
 go_enter Tryz.func132, Tryz.ntmps132
 go_wp2_with fail
 refine (wstr_any B g x0 x1 x2 x3 x4 x5 x6 x7 x8 x9 p v l word _ h hp hv hB Yo).mono ?_
 rintro e w1 ⟨rfl, v1, h1, hv1, hT1⟩
 have HH1 := Yh h1; have HV1 := Yh hv1; have HT1 := Yh hT1
 have hln : len = ns.length := HN.out.1.symm
 subst hln
 clear h hv hp hT1 hv1 h1
 go_wp2
 go_loopg [15] ns.length (fun G i wr => SayRel B g w x0 x1 x2 x3 x4 x5 x6 x7 x8 x9 (l ++ word.data.toList) ns G i wr)
 case atStart => exact ⟨0, v1, Yo, Yo, rfl, HH1.out, by simpa using HV1.out, HT1.out⟩
 case round =>
  obtain ⟨q, v2, hq, rfl, rfl, h2, hv2, hT2⟩ := hrel
  have HH2 := Yh h2; have HV2 := Yh hv2; have HT2 := Yh hT2; have HPR := Yh (HPW.out.pastT hT2)
  have hlen2 : (l ++ word.data.toList ++ (ns.take q).flatMap numL).length + 22 * (ns.length - q) + 1 ≤ 1000000 := by
   have h9 := flat_len (ns := ns.take q) (fun n hn => HSM.out n (List.mem_of_mem_take hn))
   have h8 := size_eq word
   rw [List.length_take] at h9
   simp only [lla]
   omega
  have HL2 := Yh hlen2
  clear hlen2 h2 hv2
  by_cases hlt : q < ns.length
  ·have gq : decide ((q : Int) < (ns.length : Int)) = true := Y2
   have gqn : decide (q < ns.length) = true := decide_eq_true hlt
   have wq : IntKind.i64.wrap ((q : Int) + 1) = ((q + 1 : Nat) : Int) := Y4
   obtain ⟨gA, rfl, hgA, hcA⟩ := (HN.out.pastT hT2 Yd).cell q hlt
   have cA := hcA q hlt
   obtain ⟨n9, hn9⟩ : ∃ n9, ns.getD q 0 = n9 := ⟨_, rfl⟩
   have hs9 : smallI n9 := by rw [← hn9, Y8, Y9 hlt]; exact HSM.out _ (List.getElem_mem _)
   rw [hn9] at cA
   have htk := take_nextI ns q hlt
   rw [hn9] at htk
   have HTK := Yh htk
   have hl9 : (l ++ word.data.toList ++ (ns.take q).flatMap numL).length + (numL n9).length ≤ 1000000 := by have h8 := HL2.out; have h9 := numL_len hs9; omega
   have HL9 := Yh hl9
   clear hl9 hcA htk hn9 hT2
   go_upto_region 4 with fail
   refine' wp_region_calm Yr (fun n _ w' => (n = 0 → Below wr.heap.size wr w') ∧ (n = 1 → ∃ v', Blk w' g 76 #[x0, x1, x2, x3, x4, x5, x6, x7, x8, x9, .pointer (some ⟨g, 10, none⟩), v'] ∧ BufAt B w' v' (l ++ word.data.toList ++ (ns.take (q + 1)).flatMap numL) ∧ PastT B [5, 76] w w')) (fun _ _ => True) [Is _, Is _, Is _, Is _, Is _, Is _, (fun _ _ _ => True)] [[], [0], [1], [], [3], [4], [2, 5, 4]] [6] [] rfl Yr Yp ?_ (Y1 (Y1 (Y1 (Y1 (Y1 (Y1 (Y0 Yn))))))) ?_ ?_
   ·intro _
    exact ⟨fun _ => Yl.drew, fun h => by cases h⟩
   rotate_left 6
   ·skip
    iterate 4 refine zq0 ?_
    refine Yz (fun u wq n hn hn2 hC hk K hK => ?_) ?_
    ·obtain ⟨hR0, hR1⟩ := hC
     simp only [calmKnown, lg0, lg1, and_true, Is] at hk
     have h3 := hk; clear hk
     simp only [h3] at hK ⊢
     have H3 := Yh h3; clear h3
     have hn0 : n = 0 := Nat.le_zero.1 (hn2 0 6 rfl Yr)
     subst hn0
     have hQ := hR0 rfl
     go_wp2_with fail
     refine (itoa_any n9 hs9.1 hs9.2 _ (HPR.out.below hQ).1).mono ?_
     rintro e w2 ⟨rfl, hbl⟩
     exact hK _ _ _ rfl ⟨fun _ => Yc hbl hQ, fun h => by cases h⟩ trivial rfl
    refine Yz (fun u wq n hn hn2 hC hk K hK => ?_) ?_
    ·obtain ⟨hR0, hR1⟩ := hC
     simp only [calmKnown, lg0, lg1, and_true, Is] at hk
     have h4 := hk; clear hk
     simp only [h4] at hK ⊢
     have H4 := Yh h4; clear h4
     go_simp
     rw [if_neg (by have := numL_len hs9; simp [numL] at this; omega), Oper.upon_value, ByteArray.mk_append_mk]
     exact hK _ _ _ rfl ⟨hR0, hR1⟩ trivial rfl
    refine Yz (fun u wq n hn hn2 hC hk K hK => ?_) ?_
    ·obtain ⟨hR0, hR1⟩ := hC
     simp only [calmKnown, lg0, lg1, and_true, Is] at hk
     obtain ⟨h2, h5, h4⟩ := hk
     simp only [h2, h5, h4] at hK ⊢
     have H2 := Yh h2; clear h2; have H5 := Yh h5; clear h5; have H4 := Yh h4; clear h4
     obtain rfl := hn 0 rfl
     have hQ := hR0 rfl
     have hB2 := Yk hQ HH2.out
     have hV2 : BufAt B _ v2 _ := HV2.out.pastT (Ts := []) (PastT.below hQ) Ys
     go_wp2_with fail
     refine (wstr_any B g x0 x1 x2 x3 x4 x5 x6 x7 x8 x9 _ v2 (l ++ word.data.toList ++ (ns.take q).flatMap numL) ⟨(numL n9).toArray⟩ _ hB2 (.inr rfl) hV2 hB HL9.out).mono ?_
     rintro e w2 ⟨rfl, v3, h3, hv3, hT3⟩
     exact hK _ _ _ rfl ⟨fun h => (by cases h), fun _ => ⟨v3, h3, by rw [HTK.out, List.flatMap_append, List.flatMap_singleton, ← List.append_assoc]; exact hv3, HT2.out.trans ((PastT.below hQ).trans hT3)⟩⟩ trivial trivial
    exact Yw
   ·intro u wz hC hF
    obtain ⟨v3, h3, hv3, hT3⟩ := hC.2 rfl
    clear hC hF
    have HZ := Yh (Ya h3 (Ya hv3 hT3)); clear h3 hv3 hT3
    go_wp2
    go_roundg (ns.length - (q + 1))
    case measure => omega
    case rel => exact ⟨q + 1, v3, Yo, Yo, by go_num, HZ.out.1, HZ.out.2.1, HZ.out.2.2⟩
  ·obtain rfl : q = ns.length := by omega
   have gp : decide ((ns.length : Int) < (ns.length : Int)) = false := Y3
   have gpn : decide (ns.length < ns.length) = false := Y3
   have hlx := HL2.out
   have hvx := HV2.out
   rw [List.take_length] at hvx hlx
   have HVX := Yh hvx; clear hvx HL2
   have hlx2 : (l ++ word.data.toList ++ ns.flatMap numL).length + 1 ≤ 1000000 := by have h9 := flat_len (ns := ns) HSM.out; have h8 := size_eq word; simp only [lla]; omega
   go_wp2_with fail
   refine (wstr_any B g x0 x1 x2 x3 x4 x5 x6 x7 x8 x9 _ v2 (l ++ word.data.toList ++ ns.flatMap numL) ⟨#[10]⟩ _ HH2.out (.inr rfl) HVX.out hB hlx2).mono ?_
   rintro e w3 ⟨rfl, v3, h3, hv3, hT3⟩
   go_wp2
   go_end0
   exact ⟨rfl, v3, h3, by rw [sayL_eq, ← List.append_assoc, ← List.append_assoc]; exact hv3, HT2.out.trans hT3⟩
end Go.Proofs.YtiinmhfolfgobaaGreatDoor
namespace Go.Proofs.YtiinmhfolfgobaaGreatDoor
open Go
section
variable {P : Program} {ops : Array Oper}
def updB (D : Nat → Bool) (i : Nat) : Nat → Bool := fun j => if j = i then true else D j
@[simp] theorem updB_self {D : Nat → Bool} {i : Nat} : updB D i i = true := by simp [updB]
structure DSpec (P : Program) (ops : Array Oper) (Q : Exit → Act → World → Prop) (C : (Nat → Bool) → (Nat → Value) → World → Prop) (R : World → World → Prop) (Fs : List (List Value → Value → World → Prop)) (Ds : List (List Nat)) (a : Act) : Prop where
 keep : ∀ (i : Nat) (f : List Value → Value → World → Prop), Fs[i]? = some f → ∀ d v w w', R w w' → f d v w → f d v w'
 step : ∀ (i : Nat) (o : Oper) (f : List Value → Value → World → Prop), ops[i]? = some o → Fs[i]? = some f → ∀ (u : Nat → Value) (w : World) (D : Nat → Bool), D i = false → (∀ j, calmReach ops ops.size j i = true → D j = false) → (∀ j, calmReach ops ops.size i j = true → D j = true) → C D u w → calmKnown Fs Ds u w (Ds.getD i []) →
  ∀ K : Act → World → Prop, (∀ v w', C (updB D i) (upd u i v) w' → R w w' → f ((Ds.getD i []).map u) v w' → K ((calmPut ops.toList u 0 a).put o.dst v) w') → wpOp P ops Q i K (calmPut ops.toList u 0 a) w
 last : ∀ (u : Nat → Value) (w : World) (D : Nat → Bool), (∀ i, i < ops.size → D i = true) → C D u w → calmFacts u w Fs Ds 0 → Q .normal (calmPut ops.toList u 0 a) w
variable {Q : Exit → Act → World → Prop} {C : (Nat → Bool) → (Nat → Value) → World → Prop} {R : World → World → Prop} {Fs : List (List Value → Value → World → Prop)} {Ds : List (List Nat)} {a : Act}
theorem calm_anyD (S : DSpec P ops Q C R Fs Ds a) (hlen : Fs.length = ops.size) (hB : calmB ops Ds [] = true) :
  ∀ (fuel : Nat) (listed : Array Bool) (u : Nat → Value) (w : World), listed.size = ops.size → Closed ops listed → (listed.toList.filter (! ·)).length ≤ fuel → C (fun j => listed.getD j false) u w →
   (∀ (j : Nat) (f : List Value → Value → World → Prop), Fs[j]? = some f → listed.getD j false = true → f ((Ds.getD j []).map u) (u j) w) → wpAny P .any ops Q fuel listed (calmPut ops.toList u 0 a) w := by
 simp only [calmB, Bool.and_eq_true, List.all_eq_true, List.mem_range] at hB
 obtain ⟨⟨⟨⟨hB1, hB2⟩, hB3⟩, hB4⟩, hB5⟩ := hB
 have back : ∀ i o, ops[i]? = some o → ∀ e ∈ o.after, Region.binds .any e = true → e.on < i := by
  intro i o ho e he hb
  have h := hB1 i (Array.getElem?_eq_some_iff.1 ho).1
  simp only [ho, Option.map_some, Option.getD_some, Array.all_eq_true] at h
  obtain ⟨n, hn, rfl⟩ := Array.getElem_of_mem he
  have h2 := h n hn
  simp only [hb, Bool.not_true, Bool.false_or, decide_eq_true_eq] at h2
  exact h2
 have dist : ∀ (p q : Nat) (o o' : Oper), ops.toList[p]? = some o → ops.toList[q]? = some o' → q < p → ∀ x, o.dst = some x → o'.dst ≠ some x := by
  intro p q o o' hp hq hqp x hx hx'
  rw [Array.getElem?_toList] at hp hq
  have h := hB2 p (Array.getElem?_eq_some_iff.1 hp).1 q hqp
  simp [hp, hq, hx, hx'] at h
 -- none ready: all are listed
 have all : ∀ listed : Array Bool, listed.size = ops.size → Region.ready .any ops listed = [] → ∀ i, i < ops.size → listed.getD i false = true := by
  intro listed hs hr i
  induction i using Nat.strongRecOn with
  | ind i ih =>
   intro hi
   rcases h : listed.getD i false with _ | _
   ·exfalso
    have hmem : i ∈ Region.ready .any ops listed := by
     rw [mem_ready]
     refine ⟨?_, ops[i], by simp [hi], fun e he hb => ih e.on (back i _ (by simp [hi]) e he hb) (Nat.lt_trans (back i _ (by simp [hi]) e he hb) hi)⟩
     rw [Array.getD_eq_getD_getElem?, Array.getElem?_eq_getElem Yo] at h ⊢
     exact h
    rw [hr] at hmem; cases hmem
   ·rfl
 have done : ∀ (listed : Array Bool) (u : Nat → Value) (w : World), listed.size = ops.size → C (fun j => listed.getD j false) u w → (∀ (j : Nat) (f : List Value → Value → World → Prop), Fs[j]? = some f → listed.getD j false = true → f ((Ds.getD j []).map u) (u j) w) → Region.ready .any ops listed = [] → Q .normal (calmPut ops.toList u 0 a) w := by
  intro listed u w hs hC hF hr
  have hall := all listed hs hr
  refine S.last u w _ hall hC (facts_of _ _ _ fun j f hf => ?_)
  have hj : j < ops.size := by rw [← hlen]; exact (List.getElem?_eq_some_iff.1 hf).1
  simpa using hF j f hf (hall j hj)
 intro fuel
 induction fuel with
 | zero =>
  intro listed u w hs hcl hfu hC hF
  have hr : Region.ready .any ops listed = [] := by
   cases hr : Region.ready .any ops listed with
   | nil => rfl
   | cons i l =>
    exfalso
    have hi : i ∈ Region.ready .any ops listed := by rw [hr]; simp
    obtain ⟨h0, o, ho, _⟩ := mem_ready.1 hi
    have hlt : i < listed.size := by rw [hs]; exact (Array.getElem?_eq_some_iff.1 ho).1
    rw [Array.getD_eq_getD_getElem?, Array.getElem?_eq_getElem hlt] at h0
    have : listed[i] ∈ listed.toList.filter (! ·) := by
     rw [List.mem_filter]; exact ⟨by simp, by simpa using h0⟩
    have h1 := List.length_pos_of_mem this
    omega
  exact ⟨hr, done listed u w hs hC hF hr⟩
 | succ fuel ih =>
  intro listed u w hs hcl hfu hC hF
  refine ⟨fun hr => done listed u w hs hC hF hr, fun i hi => ?_⟩
  obtain ⟨h0, o, ho, hall⟩ := mem_ready.1 hi
  have hlt : i < ops.size := (Array.getElem?_eq_some_iff.1 ho).1
  have hf : Fs[i]? = some (Fs[i]'Yo) := Y9 _
  have h0' : listed.getD i false = false := by
   rw [Array.getD_eq_getD_getElem?, Array.getElem?_eq_getElem Yo] at h0 ⊢; exact h0
  have kn : ∀ j, calmReach ops ops.size i j = true → listed.getD j false = true := fun j hj => reach_listed hcl _ i j o ho hall hj
  have un : ∀ j, calmReach ops ops.size j i = true → listed.getD j false = false := by
   intro j hj
   rcases h : listed.getD j false with _ | _
   ·rfl
   ·exfalso
    cases hoj : ops[j]? with
    | none => cases hsz : ops.size with
     | zero => omega
     | succ s => rw [hsz] at hj; simp [calmReach, hoj] at hj
    | some oj =>
     have := reach_listed hcl _ j i oj hoj (fun e he hb => hcl j oj hoj h e he hb) hj
     rw [h0'] at this; cases this
  refine S.step i o _ ho hf u w (fun j => listed.getD j false) h0' un kn hC (known_of _ fun j hj f hjf => ?_) _ (fun v w' hC' hR hv => ?_)
  ·refine hF j f hjf (kn j ?_)
   have := hB3 i hlt
   exact this j hj
  ·have e : (calmPut ops.toList u 0 a).put o.dst v = calmPut ops.toList (upd u i v) 0 a := by
    have := calmPut_upd v ops.toList u 0 i a (by simpa using hlt) dist
    simpa [ho] using this
   rw [e]
   refine ih _ _ _ (by simpa using hs) ?_ ?_ ?_ ?_
   ·intro j oj hoj hlj e2 he2 hb2
    by_cases hji : j = i
    ·subst hji; rw [ho] at hoj; cases hoj
     exact getD_set_true (hall e2 he2 hb2)
    ·rw [getD_set_ne false (Ne.symm hji)] at hlj
     exact getD_set_true (hcl j oj hoj hlj e2 he2 hb2)
   ·have h1 : ((listed.setIfInBounds i true).toList.filter (! ·)).length < (listed.toList.filter (! ·)).length := by
     have hil : i < listed.toList.length := by simp; omega
     have hx : listed.toList[i] = false := by
      rw [Array.getD_eq_getD_getElem?, Array.getElem?_eq_getElem Yo] at h0
      simpa using h0
     have e1 : listed.toList = listed.toList.take i ++ false :: listed.toList.drop (i + 1) := by
      rw [← hx, List.getElem_cons_drop, List.take_append_drop]
     have e2 : (listed.setIfInBounds i true).toList = listed.toList.take i ++ true :: listed.toList.drop (i + 1) := by
      rw [Array.toList_setIfInBounds, List.set_eq_take_append_cons_drop, if_pos hil]
     rw [e2]
     conv => rhs; rw [e1]
     simp
    omega
   ·have e2 : (fun j => (listed.setIfInBounds i true).getD j false) = updB (fun j => listed.getD j false) i := by
     funext j
     unfold updB
     by_cases hj : j = i
     ·subst hj; rw [if_pos rfl]; simp [Array.getD_eq_getD_getElem?, hs, hlt]
     ·rw [if_neg hj]; exact getD_set_ne false (Ne.symm hj)
    rw [e2]; exact hC'
   ·intro j f hjf hlj
    have same : (Ds.getD j []).map (upd u i v) = (Ds.getD j []).map u := by
     refine List.map_congr_left fun k hk => ?_
     have hj : j < ops.size := by rw [← hlen]; exact (List.getElem?_eq_some_iff.1 hjf).1
     have hr := hB3 j hj k hk
     have hki : k ≠ i := by
      intro e; subst e
      by_cases hji : j = k
      ·subst hji
       have := un j hr
       have h2 := kn j hr
       rw [h0'] at h2; cases h2
      ·rw [getD_set_ne false (Ne.symm hji)] at hlj
       have := un j hr
       rw [hlj] at this; cases this
     simp [upd, hki]
    rw [same]
    by_cases hji : j = i
    ·subst hji
     rw [hf] at hjf; cases hjf
     simpa [upd] using hv
    ·rw [getD_set_ne false (Ne.symm hji)] at hlj
     simp only [upd, hji, if_false]
     exact S.keep j f hjf _ _ _ _ hR (hF j f hjf hlj)
def DStep (P : Program) (ops : Array Oper) (Q : Exit → Act → World → Prop) (C : (Nat → Bool) → (Nat → Value) → World → Prop) (R : World → World → Prop) (Fs : List (List Value → Value → World → Prop)) (Ds : List (List Nat)) (A : (Nat → Value) → Act) (o : Oper) (f : List Value → Value → World → Prop) (d : List Nat) (i : Nat) : Prop :=
 ∀ (u : Nat → Value) (w : World) (D : Nat → Bool), D i = false → (∀ j, calmReach ops ops.size j i = true → D j = false) → (∀ j, calmReach ops ops.size i j = true → D j = true) → C D u w → calmKnown Fs Ds u w d → ∀ K : Act → World → Prop,
  (∀ a' v w', a' = (A u).put o.dst v → C (updB D i) (upd u i v) w' → R w w' → f (d.map u) v w' → K a' w') →
  if Region.wanted o (yielded ops (A u).tmps) = true then Oper.wp P o (A u) w K Q else K ((A u).put o.dst undef) w
def DSteps (P : Program) (ops : Array Oper) (Q : Exit → Act → World → Prop) (C : (Nat → Bool) → (Nat → Value) → World → Prop) (R : World → World → Prop) (Fs : List (List Value → Value → World → Prop)) (Ds : List (List Nat)) (A : (Nat → Value) → Act) : List Oper → List (List Value → Value → World → Prop) → List (List Nat) → Nat → Prop
 | [], _, _, _ => True
 | o :: l, f :: fs, d :: ds, i => DStep P ops Q C R Fs Ds A o f d i ∧ DSteps P ops Q C R Fs Ds A l fs ds (i + 1)
 | _ :: _, _, _, _ => False
variable {A : (Nat → Value) → Act}
theorem dSteps_nil {fs : List (List Value → Value → World → Prop)} {ds : List (List Nat)} {i : Nat} : DSteps P ops Q C R Fs Ds A [] fs ds i := by unfold DSteps; trivial
theorem dSteps_cons {o : Oper} {l : List Oper} {f : List Value → Value → World → Prop} {fs : List (List Value → Value → World → Prop)} {d : List Nat} {ds : List (List Nat)} {i : Nat}
  (h : DStep P ops Q C R Fs Ds A o f d i) (h' : DSteps P ops Q C R Fs Ds A l fs ds (i + 1)) : DSteps P ops Q C R Fs Ds A (o :: l) (f :: fs) (d :: ds) i := ⟨h, h'⟩
theorem dSteps_of : ∀ {l : List Oper} {fs : List (List Value → Value → World → Prop)} {ds : List (List Nat)} {i : Nat}, DSteps P ops Q C R Fs Ds A l fs ds i → ∀ (j : Nat) (o : Oper) (f : List Value → Value → World → Prop), l[j]? = some o → fs[j]? = some f →
  DStep P ops Q C R Fs Ds A o f (ds.getD j []) (i + j)
 | [], _, _, _, _, _, _, _, h, _ => by simp at h
 | o :: l, [], ds, i, h, _, _, _, _, _ => by unfold DSteps at h; exact h.elim
 | o :: l, f :: fs, [], i, h, _, _, _, _, _ => by unfold DSteps at h; exact h.elim
 | o :: l, f :: fs, d :: ds, i, h, 0, o', f', h1, h2 => by
  simp at h1 h2; subst h1; subst h2
  exact h.1
 | o :: l, f :: fs, d :: ds, i, h, j + 1, o', f', h1, h2 => by
  have := dSteps_of h.2 j o' f' (by simpa using h1) (by simpa using h2)
  rw [show i + 1 + j = i + (j + 1) by omega] at this
  simpa [List.getD] using this
theorem wp_region_calmD {id : Nat} {l : List Oper} {Q : Exit → Act → World → Prop} {a : Act} {w : World} (hm : P.follows .mixedOrders = true)
  (C : (Nat → Bool) → (Nat → Value) → World → Prop) (R : World → World → Prop) (Fs : List (List Value → Value → World → Prop)) (Ds : List (List Nat))
  (hlen : Fs.length = l.length) (hB : calmB l.toArray Ds [] = true) (hA : ∀ u, calmPut l u 0 a = A u) (hC : C (fun _ => false) (fun j => ((l[j - 0]?).bind (·.dst)).bind (a.tmps[·]?) |>.getD undef) w.drew) (hk : CalmKeep R Fs)
  (hs : DSteps P l.toArray Q C R Fs Ds A l Fs Ds 0) (hl : ∀ (u : Nat → Value) (w' : World) (D : Nat → Bool), (∀ i, i < l.length → D i = true) → C D u w' → calmFacts u w' Fs Ds 0 → Q .normal (A u) w') :
  (Code.region id l.toArray true).wp P Q a w := by
 refine wp_region_any hm ?_
 have S : DSpec P l.toArray Q C R Fs Ds a := by
  refine ⟨calmKeep_of hk, fun i o f ho hf u w D h0 hn hn2 hC hkn K hK => ?_, fun u w' D h0 h1 h2 => by rw [show l.toArray.toList = l from rfl, hA]; exact hl u w' D (by simpa using h0) h1 h2⟩
  refine calm_wanted ho ?_
  rw [show l.toArray.toList = l from rfl, hA] at *
  have h := dSteps_of hs i o f (by simpa using ho) hf
  rw [Nat.zero_add] at h
  exact h u w D h0 hn hn2 hC hkn K (fun a' v w' he h1 h2 h3 => he ▸ hK v w' h1 h2 h3)
 have h := calm_anyD S (by simpa using hlen) hB l.toArray.size (Array.replicate l.toArray.size false) (fun j => ((l[j - 0]?).bind (·.dst)).bind (a.tmps[·]?) |>.getD undef) w.drew Ys ?_ ?_ ?_ ?_
 ·rw [show l.toArray.toList = l from rfl, calmPut_self] at h
  exact h
 ·intro i o _ hl
  exfalso
  rw [Array.getD_eq_getD_getElem?] at hl
  simp [Array.getElem?_replicate] at hl
  split at hl <;> simp at hl
 ·exact Nat.le_trans (List.length_filter_le _ _) Ys
 ·have e2 : (fun j => (Array.replicate l.toArray.size false).getD j false) = fun _ => false := by
   funext j
   simp only [Array.getD_eq_getD_getElem?, Array.getElem?_replicate]
   split <;> rfl
  rw [e2]; exact hC
 ·intro j f _ hl
  exfalso
  simp only [Array.getD_eq_getD_getElem?, Array.getElem?_replicate] at hl
  split at hl <;> simp at hl
end
theorem dc1 {P : Program} {ops : Array Oper} {Q : Exit → Act → World → Prop} {C : (Nat → Bool) → (Nat → Value) → World → Prop} {R : World → World → Prop} {Fs : List (List Value → Value → World → Prop)} {Ds : List (List Nat)} {A : (Nat → Value) → Act} {o : Oper} {l : List Oper} {f : List Value → Value → World → Prop} {fs : List (List Value → Value → World → Prop)} {d : List Nat} {ds : List (List Nat)} {i : Nat} (h : ∀ (u : Nat → Value) (w : World) (D : Nat → Bool), C D u w → calmKnown Fs Ds u w d → ∀ K : Act → World → Prop, (∀ a' v w', a' = (A u).put o.dst v → C (updB D i) (upd u i v) w' → R w w' → f (d.map u) v w' → K a' w') → if Region.wanted o (yielded ops (A u).tmps) = true then Oper.wp P o (A u) w K Q else K ((A u).put o.dst undef) w) (h' : DSteps P ops Q C R Fs Ds A l fs ds (i + 1)) : DSteps P ops Q C R Fs Ds A (o :: l) (f :: fs) (d :: ds) i := dSteps_cons (fun u w D _ _ _ hC hk K hK => h u w D hC hk K hK) h'
theorem dc0 {P : Program} {ops : Array Oper} {Q : Exit → Act → World → Prop} {C : (Nat → Bool) → (Nat → Value) → World → Prop} {R : World → World → Prop} {Fs : List (List Value → Value → World → Prop)} {Ds : List (List Nat)} {A : (Nat → Value) → Act} {o : Oper} {l : List Oper} {f : List Value → Value → World → Prop} {fs : List (List Value → Value → World → Prop)} {d : List Nat} {ds : List (List Nat)} {i : Nat} (h : ∀ (u : Nat → Value) (w : World) (D : Nat → Bool), C D u w → ∀ K : Act → World → Prop, (∀ a' v w', a' = (A u).put o.dst v → C (updB D i) (upd u i v) w' → R w w' → f (d.map u) v w' → K a' w') → if Region.wanted o (yielded ops (A u).tmps) = true then Oper.wp P o (A u) w K Q else K ((A u).put o.dst undef) w) (h' : DSteps P ops Q C R Fs Ds A l fs ds (i + 1)) : DSteps P ops Q C R Fs Ds A (o :: l) (f :: fs) (d :: ds) i := dSteps_cons (fun u w D _ _ _ hC _ K hK => h u w D hC K hK) h'
theorem dc2 {P : Program} {ops : Array Oper} {Q : Exit → Act → World → Prop} {C : (Nat → Bool) → (Nat → Value) → World → Prop} {R : World → World → Prop} {Fs : List (List Value → Value → World → Prop)} {Ds : List (List Nat)} {A : (Nat → Value) → Act} {o : Oper} {l : List Oper} {f : List Value → Value → World → Prop} {fs : List (List Value → Value → World → Prop)} {d : List Nat} {ds : List (List Nat)} {i : Nat} (h : ∀ (u : Nat → Value) (w : World) (D : Nat → Bool), D i = false → RowKit.Hid (∀ j, calmReach ops ops.size j i = true → D j = false) → RowKit.Hid (∀ j, calmReach ops ops.size i j = true → D j = true) → C D u w → calmKnown Fs Ds u w d → ∀ K : Act → World → Prop, (∀ a' v w', a' = (A u).put o.dst v → C (updB D i) (upd u i v) w' → R w w' → f (d.map u) v w' → K a' w') → if Region.wanted o (yielded ops (A u).tmps) = true then Oper.wp P o (A u) w K Q else K ((A u).put o.dst undef) w) (h' : DSteps P ops Q C R Fs Ds A l fs ds (i + 1)) : DSteps P ops Q C R Fs Ds A (o :: l) (f :: fs) (d :: ds) i := dSteps_cons (fun u w D hd hn hn2 hC hk K hK => h u w D hd (Lib.hid hn) (Lib.hid hn2) hC hk K hK) h'
theorem zq2 {P : Program} {ops : Array Oper} {Q : Exit → Act → World → Prop} {C : (Nat → Bool) → (Nat → Value) → World → Prop} {R : World → World → Prop} {Fs : List (List Value → Value → World → Prop)} {Ds : List (List Nat)} {A : (Nat → Value) → Act} {o : Oper} {l : List Oper} {f : List Value → Value → World → Prop} {fs : List (List Value → Value → World → Prop)} {d : List Nat} {ds : List (List Nat)} {i : Nat} (h' : DSteps P ops Q C R Fs Ds A l fs ds (i + 1)) (h : DStep P ops Q C R Fs Ds A o f d i := by intro u wq D hd hn hn2 hC hk K hK; (first | (simp only [calmKnown, List.getElem?_cons_zero, List.getElem?_cons_succ, and_true, Is, Pure, Option.some.injEq, List.getD_cons_zero, List.getD_cons_succ, List.map_cons, List.map_nil] at hk; simp only [hk] at hK ⊢) | skip); clear hk hd hn hn2; have HC := Lib.hid hC; clear hC; go_simp; exact hK _ _ _ rfl HC.out (by first | exact True.intro | exact Past.refl _ _ | exact Below.refl _ _ | exact PastT.refl _ _ _ | exact grown_belowP _ (Below.refl _ _) | exact fun _ h => h) rfl) : DSteps P ops Q C R Fs Ds A (o :: l) (f :: fs) (d :: ds) i := dSteps_cons h h'
theorem zq3 {P : Program} {ops : Array Oper} {Q : Exit → Act → World → Prop} {C : (Nat → Bool) → (Nat → Value) → World → Prop} {R : World → World → Prop} {Fs : List (List Value → Value → World → Prop)} {Ds : List (List Nat)} {A : (Nat → Value) → Act} {o : Oper} {l : List Oper} {f : List Value → Value → World → Prop} {fs : List (List Value → Value → World → Prop)} {d : List Nat} {ds : List (List Nat)} {i : Nat} {E : (Nat → Value) → (Nat → Bool) → World → Prop} (e : ∀ (u : Nat → Value) (w : World) (D : Nat → Bool), D i = false → (∀ j, calmReach ops ops.size j i = true → D j = false) → (∀ j, calmReach ops ops.size i j = true → D j = true) → C D u w → E u D w) (h' : DSteps P ops Q C R Fs Ds A l fs ds (i + 1)) (h : ∀ (u : Nat → Value) (w : World) (D : Nat → Bool), E u D w → C D u w → calmKnown Fs Ds u w d → ∀ K : Act → World → Prop, (∀ a' v w', a' = (A u).put o.dst v → C (updB D i) (upd u i v) w' → R w w' → f (d.map u) v w' → K a' w') → if Region.wanted o (yielded ops (A u).tmps) = true then Oper.wp P o (A u) w K Q else K ((A u).put o.dst undef) w := by intro u wq D he hC hk K hK; (first | (simp only [calmKnown, List.getElem?_cons_zero, List.getElem?_cons_succ, and_true, Is, Pure, Option.some.injEq, List.getD_cons_zero, List.getD_cons_succ, List.map_cons, List.map_nil] at hk; simp only [hk] at hK ⊢) | skip); clear hk; have HC := Lib.hid hC; clear hC; (try dsimp only at he); go_simp; exact hK _ _ _ rfl HC.out (by first | exact True.intro | exact Past.refl _ _ | exact Below.refl _ _ | exact PastT.refl _ _ _ | exact grown_belowP _ (Below.refl _ _) | exact fun _ h => h) rfl) : DSteps P ops Q C R Fs Ds A (o :: l) (f :: fs) (d :: ds) i := dSteps_cons (fun u w D hd hn hn2 hC hk K hK => h u w D (e u w D hd hn hn2 hC) hC hk K hK) h'
end Go.Proofs.YtiinmhfolfgobaaGreatDoor
namespace Go.Proofs.YtiinmhfolfgobaaGreatDoor
open Go.RowKit
def NewD (base : Nat) (T : TypeId) (zs vs : Array Value) (d e : Bool) (p : Value) (w' : World) : Prop := d = true → ∃ g, p = .pointer (some ⟨g, 0, none⟩) ∧ base ≤ g ∧ g < w'.heap.size ∧ (e = false → Blk w' g T zs) ∧ (e = true → Blk w' g T vs)
section
variable {base : Nat} {T : TypeId} {zs vs : Array Value} {d e : Bool} {p : Value} {w w' : World}
theorem NewD.start (p : Value) : NewD base T zs vs false e p w := fun h => by cases h
theorem NewD.below (h : NewD base T zs vs d e p w) (hb : Below w.heap.size w w') : NewD base T zs vs d e p w' := fun hd => by
 obtain ⟨g, a, b, c, f, k⟩ := h hd
 exact ⟨g, a, b, Nat.lt_of_lt_of_le c hb.size, fun h => Yk hb (f h), fun h => Yk hb (k h)⟩
theorem NewD.made (hb : base ≤ w.heap.size) (he : e = false) : NewD base T zs vs d e (.pointer (some ⟨w.heap.size, 0, none⟩)) (w.alloc (.cells zs T)) :=
 fun _ => ⟨_, rfl, hb, Ys, (fun _ => Blk.new _ _ _), (fun h => by rw [he] at h; cases h)⟩
theorem NewD.one (h : NewD base T zs vs d e p w) (hd : d = true) (he : e = false) : ∃ g, p = .pointer (some ⟨g, 0, none⟩) ∧ base ≤ g ∧ g < w.heap.size ∧ Blk w g T zs := by
 obtain ⟨g, a, b, c, f, k⟩ := h hd; exact ⟨g, a, b, c, f he⟩
theorem NewD.stored {g : Nat} (hb : base ≤ g) (h : Blk w g T vs) : NewD base T zs vs d true (.pointer (some ⟨g, 0, none⟩)) w := fun _ => ⟨g, rfl, hb, h.lt, (fun h => by cases h), (fun _ => h)⟩
theorem NewD.last (h : NewD base T zs vs d e p w) (hd : d = true) (he : e = true) : ∃ g, p = .pointer (some ⟨g, 0, none⟩) ∧ base ≤ g ∧ g < w.heap.size ∧ Blk w g T vs := by
 obtain ⟨g, a, b, c, f, k⟩ := h hd; exact ⟨g, a, b, c, k he⟩
end
end Go.Proofs.YtiinmhfolfgobaaGreatDoor
namespace Go.Proofs.YtiinmhfolfgobaaGreatDoor
open Go Go.RowKit
end Go.Proofs.YtiinmhfolfgobaaGreatDoor
namespace Go.Proofs.YtiinmhfolfgobaaGreatDoor
open Go.RowKit
def kwC (k : Kw) : List Value := .bool k.1 :: k.2.cs
theorem Past.call {X : List Nat} {w W W' : World} (h : Past X w W) (hb : Below W.heap.size W W') : Past X w W' := Past.trans h (Past.below hb)
theorem setArr_size : ∀ (l : List Value) (i : Nat) (cs : Array Value), (setArr cs i l).size = cs.size
 | [], _, _ => rfl
 | v :: l, i, cs => (setArr_size l (i + 1) _).trans Ys
theorem setArr_get : ∀ (l : List Value) (i : Nat) (cs : Array Value) (j : Nat), i + l.length ≤ cs.size → (setArr cs i l)[j]? = if i ≤ j ∧ j < i + l.length then l[j - i]? else cs[j]?
 | [], i, cs, j, _ => by simp only [setArr, List.length_nil]; rw [if_neg Yo]
 | v :: l, i, cs, j, h => by
  simp only [setArr, List.length_cons] at *
  rw [setArr_get l (i + 1) _ j (by simp; omega), Array.getElem?_setIfInBounds]
  by_cases e : i = j
  ·subst e
   rw [if_neg Yo, if_pos rfl, if_pos Yo, if_pos Yo, Nat.sub_self]; rfl
  ·rw [if_neg e]
   by_cases e2 : i + 1 ≤ j ∧ j < i + 1 + l.length
   ·rw [if_pos e2, if_pos Yo, show j - i = (j - (i + 1)) + 1 by omega]; rfl
   ·rw [if_neg e2, if_neg Yo]
theorem setAll_pastX {X : List Nat} {W : World} {g : Nat} (hg : g ∈ X) : ∀ (l : List Value) (i : Nat) (w : World), Past X W w → Past X W (setAll w g i l)
 | [], _, _, h => h
 | _ :: l, i, w, h => setAll_pastX hg l (i + 1) _ (h.setIn hg _)
theorem Past.transF {X : List Nat} {g : Nat} {w a c : World} (h : Past X w a) (k : Past (g :: X) a c) (hg : w.heap.size ≤ g) : Past X w c := by
 refine ⟨Nat.le_trans h.1 k.1, k.2.1.trans h.2.1, k.2.2.1.trans h.2.2.1, k.2.2.2.1.trans h.2.2.2.1, fun q hq hn => ?_⟩
 have hm : q ∉ g :: X := fun hm => by
  rcases List.mem_cons.1 hm with e | e
  ·omega
  ·exact hn e
 exact (k.2.2.2.2 q (Nat.lt_of_lt_of_le hq h.1) hm).trans (h.2.2.2.2 q hq hn)
theorem Past.more {X Y : List Nat} {w w' : World} (hX : ∀ x ∈ X, x ∈ Y) (h : Past X w w') : Past Y w w' := ⟨h.1, h.2.1, h.2.2.1, h.2.2.2.1, fun k hk hn => h.2.2.2.2 k hk (fun hm => hn (hX k hm))⟩
end Go.Proofs.YtiinmhfolfgobaaGreatDoor
namespace Go.Proofs.YtiinmhfolfgobaaGreatDoor
open Go.RowKit Go.Shelf Go.Sort
def kCells (ks : List K6) : List Value := ks.flatMap K6.cs
theorem kCells_snoc (ks : List K6) (x : K6) : kCells (ks ++ [x]) = kCells ks ++ x.cs := by simp [kCells]
theorem kCells_get (ks : List K6) : ∀ (j i : Nat), j < ks.length → i < 6 → (kCells ks)[j * 6 + i]? = (ks.getD j .zero).cs[i]? := by
 induction ks with
 | nil => intro j i h; simp at h
 | cons x xs ih =>
  intro j i hj hi
  have e : kCells (x :: xs) = x.cs ++ kCells xs := rfl
  have hc : x.cs.length = 6 := rfl
  cases j with
  | zero => rw [e, List.getElem?_append_left Yo]; simp
  | succ j => rw [e, List.getElem?_append_right Yo, hc, show (j + 1) * 6 + i - 6 = j * 6 + i by omega, ih j i (by simpa using hj) hi]; simp
def RowK (w : World) (base : Nat) (v : Value) (ks : List K6) : Prop := w.ownsRow base 44 6 v ks.length (kCells ks)
theorem RowK.nil {w : World} {base : Nat} : RowK w base (.slice none 0 0) [] := World.ownsRow_nil _ _ _ _
theorem RowK.lt {w : World} {base : Nat} {v : Value} {ks : List K6} (h : RowK w base v ks) : ∀ k, v.ownBlock = some k → base ≤ k ∧ k < w.heap.size := World.ownsRow.lt h
theorem RowK.kept {w w' : World} {base : Nat} {v : Value} {ks : List K6} {row : Option Nat} (h : RowK w base v ks) (hg : w.grownBy w' row) (hn : ∀ k, v.ownBlock = some k → some k ≠ row) : RowK w' base v ks :=
 World.ownsRow.kept h hg (by
  cases hv : v.ownBlock with
  | none => exact .inl rfl
  | some k => exact .inr (hn k hv))
theorem RowK.below {w w' : World} {base : Nat} {v : Value} {ks : List K6} (h : RowK w base v ks) (hb : Below w.heap.size w w') : RowK w' base v ks := RowK.kept h (row := none) (grown_below hb) (fun k _ e => by cases e)
theorem RowK.known {w : World} {base : Nat} {A : Option Addr} {cap : Nat} {ks : List K6} (h : RowK w base (.slice A ks.length cap) ks) (hm : ks.length ≤ 9223372036854775807) : KnAt w A ks.length ks := by
 refine ⟨rfl, hm, fun hl => ?_⟩
 obtain ⟨g, c, e, _, hg⟩ := World.ownsRow.form h hl
 cases e
 refine ⟨g, 0, rfl, hg, fun j hj => ?_⟩
 have hc := fun i (hi : i < 6) => World.ownsRow.cellAt h (j * 6 + i) Yo
 have hv := fun i (hi : i < 6) => (hc i hi).trans (kCells_get ks j i hj hi)
 rw [Nat.zero_add]
 exact ⟨hv 0 Yo, hv 1 Yo, hv 2 Yo, hv 3 Yo, hv 4 Yo, hv 5 Yo⟩
theorem infoKn : (Tryz.prog.info? 44).map (fun i => (i.zero, i.size, i.bytes)) = some (some (.agg #[.int .i64 0, .int .i64 0, .int .i64 0, .int .i64 0, .int .i64 0, .int .i64 0]), 6, 48) := by kernel_rfl
def SrcAt (cur : Array Value) (l : List Kw) : Prop := cur.size = l.length * 7 ∧ ∀ j, j < l.length → ∀ i, i < 7 → cur[j * 7 + i]? = (kwC (l.getD j (false, .zero)))[i]?
theorem knowns_next {l : List Kw} {q : Nat} (h : q < l.length) : knowns (l.take (q + 1)) = if (l.getD q (false, .zero)).1 then knowns (l.take q) ++ [(l.getD q (false, .zero)).2] else knowns (l.take q) := by
 have e : l.take (q + 1) = l.take q ++ [l.getD q (false, .zero)] := by
  rw [List.take_add_one, Y9 h, Y8, Y9 h]; rfl
 rw [e, knowns_app]
 rcases hk : l.getD q (false, .zero) with ⟨b, k⟩
 cases b <;> simp [knowns]
theorem Past.toBelow {w w' : World} (h : Past [] w w') : Below w.heap.size w w' := ⟨h.2.1, h.2.2.1, h.2.2.2.1, h.1, fun k hk => h.2.2.2.2 k hk Ys⟩
theorem own_belowK {w w' : World} {base m : Nat} {v : Value} {ks : List K6} (h : RowK w base v ks) (hm : m = ks.length) (hb : Below w.heap.size w w') : w'.ownsRow base 44 6 v m (kCells ks) := by
 subst hm; exact RowK.below h hb
def MeRel (w : World) (l : List Kw) (n : Nat) (G : Nat) (v i : Value) (wr : World) : Prop := ∃ (q m : Nat) (A : Option Addr) (c : Nat), q ≤ n ∧ G = n - q ∧ i = .int .i64 q ∧ v = .slice A m c ∧ m = (knowns (l.take q)).length ∧ RowK wr w.heap.size (.slice A m c) (knowns (l.take q)) ∧ Below w.heap.size w wr
end Go.Proofs.YtiinmhfolfgobaaGreatDoor
namespace Go.Proofs.YtiinmhfolfgobaaGreatDoor
open Go.RowKit
set_option maxHeartbeats 8000000
set_option maxRecDepth 100000
theorem rread_e1 (aim rate : Int) (set held : Bool) (at_ shown t lo hi : Int) (w : World) (h : chk aim rate at_ shown = 4) : Calls Tryz.prog 122 #[.agg #[.int .i64 aim, .int .i64 rate, .bool set, .bool held, .int .i64 at_, .int .i64 shown], .int .i64 t, .agg #[.int .i64 lo, .int .i64 hi]] w (ReadPost w (rdV aim rate set at_ shown t lo hi) (rdE aim rate set at_ shown t lo hi)) := by
 have e1 : rdE aim rate set at_ shown t lo hi = 4 := rdE_1 h
 rw [rdV_err (by rw [e1]; decide), e1]
 clear e1
 go_enter Tryz.func122, Tryz.ntmps122
 go_wp2_with (first | (go_at_call 150; refine (rscheck_any _ _ _ _ _ _ _).mono ?_; rintro e w1 ⟨rfl, rfl⟩) | (go_at_call 65; refine (rsvalid_any _ _ _).mono ?_; rintro e w1 ⟨rfl, rfl⟩) | (go_at_call 40; refine (rvalid_any _ _).mono ?_; rintro e w1 ⟨rfl, rfl⟩) | (go_at_call 151; refine (rtarget_any _ _ _ _).mono ?_; rintro e w1 ⟨rfl, hb⟩; obtain ⟨hc, hf⟩ := bcell hb; have hz := hb.size; simp at hz; have z0 : w.heap.size < w1.heap.size := Yo; have z1 : w.heap.size + 1 < w1.heap.size := Yo; have z2 : w.heap.size + 1 + 1 < w1.heap.size := Yo))
 exact bodyPost_ret (v := .tuple #[zeroClk, .int .i64 4]) (by simp [results, Tryz.results122, go_sem, zeroClk]) rfl ⟨rfl, by repeat (first | (refine Below.setCell ?_ Y7 _) | (refine Below.alloc ?_ Y7 _) | exact Below.refl _ _)⟩
theorem rread_e2 (aim rate : Int) (set held : Bool) (at_ shown t lo hi : Int) (w : World) (h : chk aim rate at_ shown = 0) (h2 : vS lo hi = false) : Calls Tryz.prog 122 #[.agg #[.int .i64 aim, .int .i64 rate, .bool set, .bool held, .int .i64 at_, .int .i64 shown], .int .i64 t, .agg #[.int .i64 lo, .int .i64 hi]] w (ReadPost w (rdV aim rate set at_ shown t lo hi) (rdE aim rate set at_ shown t lo hi)) := by
 have e1 : rdE aim rate set at_ shown t lo hi = 3 := rdE_2 h h2
 rw [rdV_err (by rw [e1]; decide), e1]
 clear e1
 go_enter Tryz.func122, Tryz.ntmps122
 go_wp2_with (first | (go_at_call 150; refine (rscheck_any _ _ _ _ _ _ _).mono ?_; rintro e w1 ⟨rfl, rfl⟩) | (go_at_call 65; refine (rsvalid_any _ _ _).mono ?_; rintro e w1 ⟨rfl, rfl⟩) | (go_at_call 40; refine (rvalid_any _ _).mono ?_; rintro e w1 ⟨rfl, rfl⟩) | (go_at_call 151; refine (rtarget_any _ _ _ _).mono ?_; rintro e w1 ⟨rfl, hb⟩; obtain ⟨hc, hf⟩ := bcell hb; have hz := hb.size; simp at hz; have z0 : w.heap.size < w1.heap.size := Yo; have z1 : w.heap.size + 1 < w1.heap.size := Yo; have z2 : w.heap.size + 1 + 1 < w1.heap.size := Yo))
 exact bodyPost_ret (v := .tuple #[zeroClk, .int .i64 3]) (by simp [results, Tryz.results122, go_sem, zeroClk]) rfl ⟨rfl, by repeat (first | (refine Below.setCell ?_ Y7 _) | (refine Below.alloc ?_ Y7 _) | exact Below.refl _ _)⟩
theorem rread_e3 (aim rate : Int) (set held : Bool) (at_ shown t lo hi : Int) (w : World) (h : chk aim rate at_ shown = 0) (h2 : vS lo hi = true) (h3 : vT t = false) : Calls Tryz.prog 122 #[.agg #[.int .i64 aim, .int .i64 rate, .bool set, .bool held, .int .i64 at_, .int .i64 shown], .int .i64 t, .agg #[.int .i64 lo, .int .i64 hi]] w (ReadPost w (rdV aim rate set at_ shown t lo hi) (rdE aim rate set at_ shown t lo hi)) := by
 have e1 : rdE aim rate set at_ shown t lo hi = 4 := rdE_3 h h2 h3
 rw [rdV_err (by rw [e1]; decide), e1]
 clear e1
 go_enter Tryz.func122, Tryz.ntmps122
 go_wp2_with (first | (go_at_call 150; refine (rscheck_any _ _ _ _ _ _ _).mono ?_; rintro e w1 ⟨rfl, rfl⟩) | (go_at_call 65; refine (rsvalid_any _ _ _).mono ?_; rintro e w1 ⟨rfl, rfl⟩) | (go_at_call 40; refine (rvalid_any _ _).mono ?_; rintro e w1 ⟨rfl, rfl⟩) | (go_at_call 151; refine (rtarget_any _ _ _ _).mono ?_; rintro e w1 ⟨rfl, hb⟩; obtain ⟨hc, hf⟩ := bcell hb; have hz := hb.size; simp at hz; have z0 : w.heap.size < w1.heap.size := Yo; have z1 : w.heap.size + 1 < w1.heap.size := Yo; have z2 : w.heap.size + 1 + 1 < w1.heap.size := Yo))
 exact bodyPost_ret (v := .tuple #[zeroClk, .int .i64 4]) (by simp [results, Tryz.results122, go_sem, zeroClk]) rfl ⟨rfl, by repeat (first | (refine Below.setCell ?_ Y7 _) | (refine Below.alloc ?_ Y7 _) | exact Below.refl _ _)⟩
theorem rread_e4 (aim rate : Int) (held : Bool) (at_ shown t lo hi : Int) (w : World) (h : chk aim rate at_ shown = 0) (h2 : vS lo hi = true) (h3 : vT t = true) (h4 : t < at_) : Calls Tryz.prog 122 #[.agg #[.int .i64 aim, .int .i64 rate, .bool true, .bool held, .int .i64 at_, .int .i64 shown], .int .i64 t, .agg #[.int .i64 lo, .int .i64 hi]] w (ReadPost w (rdV aim rate true at_ shown t lo hi) (rdE aim rate true at_ shown t lo hi)) := by
 have e1 : rdE aim rate true at_ shown t lo hi = 12 := rdE_4 h h2 h3 ⟨rfl, h4⟩
 rw [rdV_err (by rw [e1]; decide), e1]
 clear e1
 go_enter Tryz.func122, Tryz.ntmps122
 go_wp2_with (first | (go_at_call 150; refine (rscheck_any _ _ _ _ _ _ _).mono ?_; rintro e w1 ⟨rfl, rfl⟩) | (go_at_call 65; refine (rsvalid_any _ _ _).mono ?_; rintro e w1 ⟨rfl, rfl⟩) | (go_at_call 40; refine (rvalid_any _ _).mono ?_; rintro e w1 ⟨rfl, rfl⟩) | (go_at_call 151; refine (rtarget_any _ _ _ _).mono ?_; rintro e w1 ⟨rfl, hb⟩; obtain ⟨hc, hf⟩ := bcell hb; have hz := hb.size; simp at hz; have z0 : w.heap.size < w1.heap.size := Yo; have z1 : w.heap.size + 1 < w1.heap.size := Yo; have z2 : w.heap.size + 1 + 1 < w1.heap.size := Yo))
 exact bodyPost_ret (v := .tuple #[zeroClk, .int .i64 12]) (by simp [results, Tryz.results122, go_sem, zeroClk]) rfl ⟨rfl, by repeat (first | (refine Below.setCell ?_ Y7 _) | (refine Below.alloc ?_ Y7 _) | exact Below.refl _ _)⟩
theorem rread_unset (aim rate : Int) (held : Bool) (at_ shown t lo hi : Int) (w : World) (h : chk aim rate at_ shown = 0) (h2 : vS lo hi = true) (h3 : vT t = true) : Calls Tryz.prog 122 #[.agg #[.int .i64 aim, .int .i64 rate, .bool false, .bool held, .int .i64 at_, .int .i64 shown], .int .i64 t, .agg #[.int .i64 lo, .int .i64 hi]] w (ReadPost w (rdV aim rate false at_ shown t lo hi) (rdE aim rate false at_ shown t lo hi)) := by
 have e1 : rdE aim rate false at_ shown t lo hi = 0 := rdE_ok h h2 h3 Ys
 rw [rdV_ok e1, e1, show rdHeld false shown hi = false from rfl, show rdShown aim rate false at_ shown t lo hi = lo + (hi - lo) * aim / 1000 from rfl]
 clear e1
 have hk := chk_zero h
 have ht := tgt_ok h2 hk.1 hk.2.1
 go_enter Tryz.func122, Tryz.ntmps122
 go_wp2_with (first | (go_at_call 150; refine (rscheck_any _ _ _ _ _ _ _).mono ?_; rintro e w1 ⟨rfl, rfl⟩) | (go_at_call 65; refine (rsvalid_any _ _ _).mono ?_; rintro e w1 ⟨rfl, rfl⟩) | (go_at_call 40; refine (rvalid_any _ _).mono ?_; rintro e w1 ⟨rfl, rfl⟩) | (go_at_call 151; refine (rtarget_any _ _ _ _).mono ?_; rintro e w1 ⟨rfl, hb⟩; obtain ⟨hc, hf⟩ := bcell hb; have hz := hb.size; simp at hz; have z0 : w.heap.size < w1.heap.size := Yo; have z1 : w.heap.size + 1 < w1.heap.size := Yo; have z2 : w.heap.size + 1 + 1 < w1.heap.size := Yo))
 have hB : Below w.heap.size w w1 := kept_call hb (by repeat (first | (refine Below.alloc ?_ Y7 _) | exact Below.refl _ _))
 refine bodyPost_ret (v := .tuple #[.agg #[.int .i64 aim, .int .i64 rate, .bool true, .bool false, .int .i64 t, .int .i64 (lo + (hi - lo) * aim / 1000)], .int .i64 0]) (by simp [results, Tryz.results122, go_sem, hc, hf, z0, z1, z2]) rfl ⟨rfl, by (repeat' (first | (with_reducible exact hB) | (with_reducible refine Below.setCell ?_ ?_ _) | (with_reducible refine Below.alloc ?_ ?_ _) | (with_reducible refine Below.drew ?_) | (with_reducible refine below_drewN ?_ _))) <;> (first | omega | (simp <;> omega))⟩
theorem rread_set (aim rate : Int) (held : Bool) (at_ shown t lo hi : Int) (w : World) (h : chk aim rate at_ shown = 0) (h2 : vS lo hi = true) (h3 : vT t = true) (h4 : at_ ≤ t) :
  Calls Tryz.prog 122 #[.agg #[.int .i64 aim, .int .i64 rate, .bool true, .bool held, .int .i64 at_, .int .i64 shown], .int .i64 t, .agg #[.int .i64 lo, .int .i64 hi]] w (ReadPost w (rdV aim rate true at_ shown t lo hi) (rdE aim rate true at_ shown t lo hi)) := by
 have e1 : rdE aim rate true at_ shown t lo hi = 0 := rdE_ok h h2 h3 Yo
 rw [rdV_ok e1, e1]
 clear e1
 have hk := chk_zero h
 obtain ⟨k1, k2, k3, k4, k5, k6⟩ := hk
 have ht := tgt_ok h2 k1 k2
 have b1 := vS_true.1 h2
 have b2 := vT_true.1 h3
 have b3 := vT_true.1 k5
 have b4 := vT_true.1 k6
 have s1 := share_le (t - at_) rate 1000000000 Yo k3 k4 Yo
 have s2 := share_le (hi - lo) aim 1000 Yo k1 k2 Yo
 have h4' : decide (t < at_) = false := by simp; omega
 by_cases h5 : hi < shown
 ·rw [show rdHeld true shown hi = true by simp [rdHeld, h5], show rdShown aim rate true at_ shown t lo hi = shown by simp [rdShown, h5]]
  go_enter Tryz.func122, Tryz.ntmps122
  go_wp2_with (first | (go_at_call 150; refine (rscheck_any _ _ _ _ _ _ _).mono ?_; rintro e w1 ⟨rfl, rfl⟩) | (go_at_call 65; refine (rsvalid_any _ _ _).mono ?_; rintro e w1 ⟨rfl, rfl⟩) | (go_at_call 40; refine (rvalid_any _ _).mono ?_; rintro e w1 ⟨rfl, rfl⟩) | (go_at_call 151; refine (rtarget_any _ _ _ _).mono ?_; rintro e w1 ⟨rfl, hb⟩; obtain ⟨hc, hf⟩ := bcell hb; have hz := hb.size; simp at hz; have z0 : w.heap.size < w1.heap.size := Yo; have z1 : w.heap.size + 1 < w1.heap.size := Yo; have z2 : w.heap.size + 1 + 1 < w1.heap.size := Yo))
  have hB : Below w.heap.size w w1 := kept_call hb (by repeat (first | (refine Below.alloc ?_ Y7 _) | exact Below.refl _ _))
  exact bodyPost_ret (v := .tuple #[.agg #[.int .i64 aim, .int .i64 rate, .bool true, .bool true, .int .i64 t, .int .i64 shown], .int .i64 0]) (by simp [results, Tryz.results122, go_sem, hc, hf, z0, z1, z2]) rfl ⟨rfl, by (repeat' (first | (with_reducible exact hB) | (with_reducible refine Below.setCell ?_ ?_ _) | (with_reducible refine Below.alloc ?_ ?_ _) | (with_reducible refine Below.drew ?_) | (with_reducible refine below_drewN ?_ _))) <;> (first | omega | (simp <;> omega))⟩
 ·rw [show rdHeld true shown hi = false by simp [rdHeld, h5], show rdShown aim rate true at_ shown t lo hi = max shown (max lo (min (lo + (hi - lo) * aim / 1000) (rdMost rate at_ shown t))) by simp [rdShown, h5]]
  go_enter Tryz.func122, Tryz.ntmps122
  go_wp2_with (first | (go_at_call 150; refine (rscheck_any _ _ _ _ _ _ _).mono ?_; rintro e w1 ⟨rfl, rfl⟩) | (go_at_call 65; refine (rsvalid_any _ _ _).mono ?_; rintro e w1 ⟨rfl, rfl⟩) | (go_at_call 40; refine (rvalid_any _ _).mono ?_; rintro e w1 ⟨rfl, rfl⟩) | (go_at_call 151; refine (rtarget_any _ _ _ _).mono ?_; rintro e w1 ⟨rfl, hb⟩; obtain ⟨hc, hf⟩ := bcell hb; have hz := hb.size; simp at hz; have z0 : w.heap.size < w1.heap.size := Yo; have z1 : w.heap.size + 1 < w1.heap.size := Yo; have z2 : w.heap.size + 1 + 1 < w1.heap.size := Yo))
  go_quiet ((go_at_call 152; refine Calls.quiet_of (share_any _ _ _ _ Yo Yo Yo Yo Yo Yo)))
  go_wp2
  all_goals
   have hB : Below w.heap.size w w1 := kept_call hb (by repeat (first | (refine Below.alloc ?_ Y7 _) | exact Below.refl _ _))
   refine bodyPost_ret (v := .tuple #[.agg #[.int .i64 aim, .int .i64 rate, .bool true, .bool false, .int .i64 t, .int .i64 (max shown (max lo (min (lo + (hi - lo) * aim / 1000) (rdMost rate at_ shown t))))], .int .i64 0]) ?_ rfl ⟨rfl, by (repeat' (first | (with_reducible exact hB) | (with_reducible refine Below.setCell ?_ ?_ _) | (with_reducible refine Below.alloc ?_ ?_ _) | (with_reducible refine Below.drew ?_) | (with_reducible refine below_drewN ?_ _))) <;> (first | omega | (simp <;> omega))⟩
   simp [results, Tryz.results122, go_sem, hc, hf, z0, z1, z2]
   clear hc hf hb
   unfold rdMost
   omega
theorem read_any (aim rate : Int) (set held : Bool) (at_ shown t lo hi : Int) (w : World) :
  Calls Tryz.prog 136 #[.agg #[.int .i64 aim, .int .i64 rate, .bool set, .bool held, .int .i64 at_, .int .i64 shown], .int .i64 t, .agg #[.int .i64 lo, .int .i64 hi]] w (ReadPost w (rdV aim rate set at_ shown t lo hi) (rdE aim rate set at_ shown t lo hi)) := by
 rcases chk_cases aim rate at_ shown with h | h
 ·rcases h2 : vS lo hi
  ·exact read_e2 aim rate set held at_ shown t lo hi w h h2
  ·rcases h3 : vT t
   ·exact read_e3 aim rate set held at_ shown t lo hi w h h2 h3
   ·cases set
    ·exact read_unset aim rate held at_ shown t lo hi w h h2 h3
    ·by_cases h4 : t < at_
     ·exact read_e4 aim rate held at_ shown t lo hi w h h2 h3 h4
     ·exact read_set aim rate held at_ shown t lo hi w h h2 h3 Yo
 ·exact read_e1 aim rate set held at_ shown t lo hi w h
theorem rread_any (aim rate : Int) (set held : Bool) (at_ shown t lo hi : Int) (w : World) :
  Calls Tryz.prog 122 #[.agg #[.int .i64 aim, .int .i64 rate, .bool set, .bool held, .int .i64 at_, .int .i64 shown], .int .i64 t, .agg #[.int .i64 lo, .int .i64 hi]] w (ReadPost w (rdV aim rate set at_ shown t lo hi) (rdE aim rate set at_ shown t lo hi)) := by
 rcases chk_cases aim rate at_ shown with h | h
 ·rcases h2 : vS lo hi
  ·exact rread_e2 aim rate set held at_ shown t lo hi w h h2
  ·rcases h3 : vT t
   ·exact rread_e3 aim rate set held at_ shown t lo hi w h h2 h3
   ·cases set
    ·exact rread_unset aim rate held at_ shown t lo hi w h h2 h3
    ·by_cases h4 : t < at_
     ·exact rread_e4 aim rate held at_ shown t lo hi w h h2 h3 h4
     ·exact rread_set aim rate held at_ shown t lo hi w h h2 h3 Yo
 ·exact rread_e1 aim rate set held at_ shown t lo hi w h
def KB (P loc : Int) (n : Nat) (k : K6) : Prop := k.pp = P ∧ -3377699720527872 ≤ k.lo ∧ k.lo ≤ k.hi ∧ k.hi ≤ 303992974847508480 + 2 * (k.at_ - loc) ∧ loc ≤ k.at_ ∧ 0 ≤ k.le ∧ k.le ≤ n ∧ 0 ≤ k.re ∧ k.re ≤ n
section
variable {P loc u : Int} {n : Nat} {k : K6}
end
theorem getD_set' {α : Type} (l : List α) (i : Nat) (v d : α) (j : Nat) : (l.set i v).getD j d = if j = i ∧ i < l.length then v else l.getD j d := by
 simp only [Y8, List.getElem?_set]
 by_cases h : i = j
 ·subst h
  by_cases h2 : i < l.length
  ·simp [h2]
  ·simp [h2]
 ·simp [h, Ne.symm h]
end Go.Proofs.YtiinmhfolfgobaaGreatDoor
namespace Go.Proofs.YtiinmhfolfgobaaGreatDoor
open Go.RowKit
end Go.Proofs.YtiinmhfolfgobaaGreatDoor
namespace Go.Proofs.YtiinmhfolfgobaaGreatDoor
open Go.RowKit Go.Shelf Go.Sort
theorem src_made (n : Nat) : SrcAt (madeCells #[.bool false, .int .i64 0, .int .i64 0, .int .i64 0, .int .i64 0, .int .i64 0, .int .i64 0] (n * 7)) (List.replicate n (false, .zero)) := by
 refine ⟨by simp [madeCells], fun j hj i hi => ?_⟩
 rw [List.length_replicate] at hj
 have hlt : j * 7 + i < n * 7 := by omega
 have e : (List.replicate n ((false, K6.zero) : Kw)).getD j (false, .zero) = (false, .zero) := by
  rw [Y8, List.getElem?_replicate, if_pos hj]; rfl
 rw [e]
 have hm : (j * 7 + i) % 7 = i := by omega
 obtain rfl | rfl | rfl | rfl | rfl | rfl | rfl : i = 0 ∨ i = 1 ∨ i = 2 ∨ i = 3 ∨ i = 4 ∨ i = 5 ∨ i = 6 := by omega
 all_goals (rw [Array.getElem?_eq_getElem (by simp [madeCells]; omega)]; simp only [madeCells, Array.getElem_map, Array.getElem_range]; simp only [List.size_toArray, List.length_cons, List.length_nil, Nat.reduceAdd, hm]; rfl)
theorem src_set {cur : Array Value} {l : List Kw} (h : SrcAt cur l) (q : Nat) (hq : q < l.length) (k : Kw) : SrcAt (setArr cur (q * 7) (kwC k)) (l.set q k) := by
 have hk : (kwC k).length = 7 := rfl
 refine ⟨by rw [setArr_size, List.length_set]; exact h.1, fun j hj i hi => ?_⟩
 rw [List.length_set] at hj
 rw [setArr_get _ _ _ _ (by rw [hk, h.1]; omega), hk, getD_set']
 by_cases e : j = q
 ·subst e
  rw [if_pos Yo, if_pos ⟨rfl, hq⟩]; congr 1; omega
 ·rw [if_neg Yo, if_neg (by simp [e])]; exact h.2 j hj i hi
end Go.Proofs.YtiinmhfolfgobaaGreatDoor
