/- What a bench is in memory; a line of its report. -/
import Derived.Lib.ItoaLen
import Derived.Test.YtiinmhfolfgobaaGreatDoorJ35
import Derived.Test.YtiinmhfolfgobaaGreatDoorWkB
import Derived.Test.YtiinmhfolfgobaaGreatDoorWkP
namespace Go.Proofs.YtiinmhfolfgobaaGreatDoor
open Go.RowKit Go.Lib
set_option linter.unusedSimpArgs false
set_option linter.unusedVariables false

/-- What the library's table holds, told by a bound below which nothing turns. -/
def PowB (B : Nat) (w : World) : Prop := Pow10 w ∧ B ≤ w.heap.size ∧ 7 < B
theorem PowB.pastT {B : Nat} {Ts : List TypeId} {w w' : World} (h : PowB B w) (hp : PastT B Ts w w') : PowB B w' := by
  refine ⟨?_, Nat.le_trans h.2.1 hp.1, h.2.2⟩
  have h1 := h.1
  unfold Pow10 TabIs at h1 ⊢
  simp only [World.var?, pow10_global, Option.bind_some] at h1 ⊢
  rw [hp.2.2.2.2 _ (by have := h.2.1; have := h.2.2; omega) (.inl h.2.2)]
  exact h1
theorem PowB.below {B : Nat} {w w' : World} (h : PowB B w) (hb : Below w.heap.size w w') : PowB B w' := h.pastT (Ts := []) (PastT.below hb)
/-- Numbers in a row. -/
def NumsR (w : World) (A : Option Addr) (len : Nat) (zs : List Int) : Prop := zs.length = len ∧ (0 < len → ∃ gA cur, A = some ⟨gA, 0, none⟩ ∧ Blk w gA 3 cur ∧ ∀ j, j < len → cur[j]? = some (.int .i64 (zs.getD j 0)))
theorem NumsR.pastT {B : Nat} {Ts : List TypeId} {w w' : World} {A : Option Addr} {len : Nat} {zs : List Int} (h : NumsR w A len zs) (hp : PastT B Ts w w') (hT : 3 ∉ Ts) : NumsR w' A len zs :=
  ⟨h.1, fun h0 => by obtain ⟨gA, cur, e, hb, hc⟩ := h.2 h0; exact ⟨gA, cur, e, hp.blk hb hT, hc⟩⟩
theorem NumsR.below {w w' : World} {A : Option Addr} {len : Nat} {zs : List Int} (h : NumsR w A len zs) (hb : Below w.heap.size w w') : NumsR w' A len zs := h.pastT (B := 0) (Ts := []) (PastT.below hb) (by simp)
theorem NumsR.cell {w : World} {A : Option Addr} {len : Nat} {zs : List Int} (h : NumsR w A len zs) (j : Nat) (hj : j < len) : ∃ gA, A = some ⟨gA, 0, none⟩ ∧ gA < w.heap.size ∧ ∀ j, j < len → w.cell? ⟨gA, j, none⟩ = some (.int .i64 (zs.getD j 0)) := by
  obtain ⟨gA, cur, e, hb, hc⟩ := h.2 (by omega)
  exact ⟨gA, e, hb.lt, fun j hj => (hb.cell j).trans (hc j hj)⟩
theorem NumsR.nil (w : World) (A : Option Addr) : NumsR w A 0 [] := ⟨rfl, fun h => by omega⟩
/-- A number in a line. -/
def numL (n : Int) : List UInt8 := 32 :: itoa n
theorem sayL_eq (word : List UInt8) (ns : List Int) : sayL word ns = word ++ ns.flatMap numL ++ [10] := rfl
def smallI (n : Int) : Prop := -9223372036854775808 ≤ n ∧ n ≤ 9223372036854775807
theorem numL_len {n : Int} (h : smallI n) : (numL n).length ≤ 22 := by have := itoa_length_le n h.1 h.2; simp [numL]; omega
theorem flat_len : ∀ {ns : List Int}, (∀ n ∈ ns, smallI n) → (ns.flatMap numL).length ≤ 22 * ns.length
  | [], _ => by simp
  | n :: ns, h => by
    have h1 := numL_len (h n (by simp))
    have h2 := flat_len (ns := ns) (fun m hm => h m (by simp [hm]))
    simp only [List.flatMap_cons, List.length_append, List.length_cons]; omega
theorem sayL_len {word : List UInt8} {ns : List Int} (h : ∀ n ∈ ns, smallI n) : (sayL word ns).length ≤ word.length + 22 * ns.length + 1 := by
  have := flat_len h
  rw [sayL_eq]; simp only [List.length_append, List.length_singleton]; omega
theorem take_nextI (zs : List Int) (q : Nat) (h : q < zs.length) : zs.take (q + 1) = zs.take q ++ [zs.getD q 0] := by
  rw [List.take_add_one, List.getElem?_eq_getElem h, List.getD_eq_getElem?_getD, List.getElem?_eq_getElem h]; rfl
def SayRel (B g : Nat) (w : World) (x0 x1 x2 x3 x4 x5 x6 x7 x8 x9 : Value) (l : List UInt8) (ns : List Int) (G : Nat) (i : Value) (wr : World) : Prop := ∃ (q : Nat) (v : Value), q ≤ ns.length ∧ G = ns.length - q ∧ i = .int .i64 q ∧ Blk wr g 76 #[x0, x1, x2, x3, x4, x5, x6, x7, x8, x9, .pointer (some ⟨g, 10, none⟩), v] ∧ BufAt B wr v (l ++ (ns.take q).flatMap numL) ∧ PastT B [5, 76] w wr


set_option maxHeartbeats 8000000 in
set_option maxRecDepth 100000 in
theorem say_core (B g : Nat) (x0 x1 x2 x3 x4 x5 x6 x7 x8 x9 p v : Value) (l : List UInt8) (word : ByteArray) (A : Option Addr) (len cap : Nat) (ns : List Int) (w : World) (h : Blk w g 76 #[x0, x1, x2, x3, x4, x5, x6, x7, x8, x9, p, v]) (hp : p = .pointer none ∨ p = .pointer (some ⟨g, 10, none⟩)) (hv : BufAt B w v l) (hB : B ≤ g) (hn : NumsR w A len ns) (hsm : ∀ n ∈ ns, smallI n) (hpow : PowB B w) (hl : l.length + word.size + 22 * ns.length + 1 ≤ 1000000) :
    Calls Tryz.prog 132 #[.pointer (some ⟨g, 0, none⟩), .string word, .slice A len cap] w (fun e w' => e = .returned (.tuple #[]) ∧ ∃ v', Blk w' g 76 #[x0, x1, x2, x3, x4, x5, x6, x7, x8, x9, .pointer (some ⟨g, 10, none⟩), v'] ∧ BufAt B w' v' (l ++ sayL word.data.toList ns) ∧ PastT B [5, 76] w w') := by
  have HN := Lib.hid hn; have HSM := Lib.hid hsm; have HPW := Lib.hid hpow; clear hn hsm hpow
  have hgl := h.lt
  go_enter Tryz.func132, Tryz.ntmps132
  go_wp2_with fail
  refine (wstr_any B g x0 x1 x2 x3 x4 x5 x6 x7 x8 x9 p v l word _ h hp hv hB (by omega)).mono ?_
  rintro e w1 ⟨rfl, v1, h1, hv1, hT1⟩
  have HH1 := Lib.hid h1; have HV1 := Lib.hid hv1; have HT1 := Lib.hid hT1
  have hln : len = ns.length := HN.out.1.symm
  subst hln
  clear h hv hp hT1 hv1 h1
  go_wp2
  go_loopg [15] ns.length (fun G i wr => SayRel B g w x0 x1 x2 x3 x4 x5 x6 x7 x8 x9 (l ++ word.data.toList) ns G i wr)
  case atStart => exact ⟨0, v1, by omega, by omega, rfl, HH1.out, by simpa using HV1.out, HT1.out⟩
  case round =>
    obtain ⟨q, v2, hq, rfl, rfl, h2, hv2, hT2⟩ := hrel
    have HH2 := Lib.hid h2; have HV2 := Lib.hid hv2; have HT2 := Lib.hid hT2; have HPR := Lib.hid (HPW.out.pastT hT2)
    have hlen2 : (l ++ word.data.toList ++ (ns.take q).flatMap numL).length + 22 * (ns.length - q) + 1 ≤ 1000000 := by
      have h9 := flat_len (ns := ns.take q) (fun n hn => HSM.out n (List.mem_of_mem_take hn))
      have h8 := size_eq word
      rw [List.length_take] at h9
      simp only [List.length_append]
      omega
    have HL2 := Lib.hid hlen2
    clear hlen2 h2 hv2
    by_cases hlt : q < ns.length
    · have gq : decide ((q : Int) < (ns.length : Int)) = true := decide_eq_true (by omega)
      have gqn : decide (q < ns.length) = true := decide_eq_true hlt
      have wq : IntKind.i64.wrap ((q : Int) + 1) = ((q + 1 : Nat) : Int) := by rw [IntWalk.i64_in _ (by omega)]; omega
      obtain ⟨gA, rfl, hgA, hcA⟩ := (HN.out.pastT hT2 (by decide)).cell q hlt
      have cA := hcA q hlt
      obtain ⟨n9, hn9⟩ : ∃ n9, ns.getD q 0 = n9 := ⟨_, rfl⟩
      have hs9 : smallI n9 := by rw [← hn9, List.getD_eq_getElem?_getD, List.getElem?_eq_getElem hlt]; exact HSM.out _ (List.getElem_mem _)
      rw [hn9] at cA
      have htk := take_nextI ns q hlt
      rw [hn9] at htk
      have HTK := Lib.hid htk
      have hl9 : (l ++ word.data.toList ++ (ns.take q).flatMap numL).length + (numL n9).length ≤ 1000000 := by have h8 := HL2.out; have h9 := numL_len hs9; omega
      have HL9 := Lib.hid hl9
      clear hl9 hcA htk hn9 hT2
      go_upto_region 4 with fail
      refine' wp_region_calm (by kernel_rfl) (fun n _ w' => (n = 0 → Below wr.heap.size wr w') ∧ (n = 1 → ∃ v', Blk w' g 76 #[x0, x1, x2, x3, x4, x5, x6, x7, x8, x9, .pointer (some ⟨g, 10, none⟩), v'] ∧ BufAt B w' v' (l ++ word.data.toList ++ (ns.take (q + 1)).flatMap numL) ∧ PastT B [5, 76] w w')) (fun _ _ => True) [(Is _), (Is _), (Is _), (Is _), (Is _), (Is _), (fun _ _ _ => True)] [[], [0], [1], [], [3], [4], [2, 5, 4]] [6] [] rfl (by kernel_rfl) (fun u => by (simp only [calmPut, Act.put, List.setIfInBounds_toArray, List.set_cons_zero, List.set_cons_succ, Nat.zero_add, Nat.reduceAdd]; rfl)) ?_ (calmKeep_cons keep_is' (calmKeep_cons keep_is' (calmKeep_cons keep_is' (calmKeep_cons keep_is' (calmKeep_cons keep_is' (calmKeep_cons keep_is' (calmKeep_cons keep_triv (calmKeep_nil)))))))) ?_ ?_
      · intro _
        exact ⟨fun _ => (Below.refl _ _).drew, fun h => by cases h⟩
      rotate_left 6
      · skip
        refine calmSteps_cons (fun u wq n hn hn2 hC hk K hK => ?_) ?_
        · obtain ⟨hR0, hR1⟩ := hC
          clear hk
          go_simp
          exact hK _ _ _ rfl ⟨hR0, hR1⟩ trivial rfl
        refine calmSteps_cons (fun u wq n hn hn2 hC hk K hK => ?_) ?_
        · obtain ⟨hR0, hR1⟩ := hC
          simp only [calmKnown, List.getElem?_cons_zero, List.getElem?_cons_succ, and_true, Is, Pure, Option.some.injEq, List.getD_cons_zero, List.getD_cons_succ, List.map_cons, List.map_nil] at hk
          have h0 := hk; clear hk
          simp only [h0] at hK ⊢
          have H0 := Lib.hid h0; clear h0
          go_simp
          exact hK _ _ _ rfl ⟨hR0, hR1⟩ trivial rfl
        refine calmSteps_cons (fun u wq n hn hn2 hC hk K hK => ?_) ?_
        · obtain ⟨hR0, hR1⟩ := hC
          simp only [calmKnown, List.getElem?_cons_zero, List.getElem?_cons_succ, and_true, Is, Pure, Option.some.injEq, List.getD_cons_zero, List.getD_cons_succ, List.map_cons, List.map_nil] at hk
          have h1 := hk; clear hk
          simp only [h1] at hK ⊢
          have H1 := Lib.hid h1; clear h1
          go_simp
          exact hK _ _ _ rfl ⟨hR0, hR1⟩ trivial rfl
        refine calmSteps_cons (fun u wq n hn hn2 hC hk K hK => ?_) ?_
        · obtain ⟨hR0, hR1⟩ := hC
          clear hk
          go_simp
          exact hK _ _ _ rfl ⟨hR0, hR1⟩ trivial rfl
        refine calmSteps_cons (fun u wq n hn hn2 hC hk K hK => ?_) ?_
        · obtain ⟨hR0, hR1⟩ := hC
          simp only [calmKnown, List.getElem?_cons_zero, List.getElem?_cons_succ, and_true, Is, Pure, Option.some.injEq, List.getD_cons_zero, List.getD_cons_succ, List.map_cons, List.map_nil] at hk
          have h3 := hk; clear hk
          simp only [h3] at hK ⊢
          have H3 := Lib.hid h3; clear h3
          have hn0 : n = 0 := Nat.le_zero.1 (hn2 0 6 rfl (by kernel_rfl))
          subst hn0
          have hQ := hR0 rfl
          go_wp2_with fail
          refine (itoa_any n9 hs9.1 hs9.2 _ (HPR.out.below hQ).1).mono ?_
          rintro e w2 ⟨rfl, hbl⟩
          exact hK _ _ _ rfl ⟨fun _ => kept_call hbl hQ, fun h => by cases h⟩ trivial rfl
        refine calmSteps_cons (fun u wq n hn hn2 hC hk K hK => ?_) ?_
        · obtain ⟨hR0, hR1⟩ := hC
          simp only [calmKnown, List.getElem?_cons_zero, List.getElem?_cons_succ, and_true, Is, Pure, Option.some.injEq, List.getD_cons_zero, List.getD_cons_succ, List.map_cons, List.map_nil] at hk
          have h4 := hk; clear hk
          simp only [h4] at hK ⊢
          have H4 := Lib.hid h4; clear h4
          go_simp
          rw [if_neg (by have := numL_len hs9; simp [numL] at this; omega), Oper.upon_value, ByteArray.mk_append_mk]
          exact hK _ _ _ rfl ⟨hR0, hR1⟩ trivial rfl
        refine calmSteps_cons (fun u wq n hn hn2 hC hk K hK => ?_) ?_
        · obtain ⟨hR0, hR1⟩ := hC
          simp only [calmKnown, List.getElem?_cons_zero, List.getElem?_cons_succ, and_true, Is, Pure, Option.some.injEq, List.getD_cons_zero, List.getD_cons_succ, List.map_cons, List.map_nil] at hk
          obtain ⟨h2, h5, h4⟩ := hk
          simp only [h2, h5, h4] at hK ⊢
          have H2 := Lib.hid h2; clear h2; have H5 := Lib.hid h5; clear h5; have H4 := Lib.hid h4; clear h4
          obtain rfl := hn 0 rfl
          have hQ := hR0 rfl
          have hB2 := Blk.keep hQ HH2.out
          have hV2 : BufAt B _ v2 _ := HV2.out.pastT (Ts := []) (PastT.below hQ) (by simp)
          go_wp2_with fail
          refine (wstr_any B g x0 x1 x2 x3 x4 x5 x6 x7 x8 x9 _ v2 (l ++ word.data.toList ++ (ns.take q).flatMap numL) ⟨(numL n9).toArray⟩ _ hB2 (.inr rfl) hV2 hB HL9.out).mono ?_
          rintro e w2 ⟨rfl, v3, h3, hv3, hT3⟩
          exact hK _ _ _ rfl ⟨fun h => (by cases h), fun _ => ⟨v3, h3, by rw [HTK.out, List.flatMap_append, List.flatMap_singleton, ← List.append_assoc]; exact hv3, HT2.out.trans ((PastT.below hQ).trans hT3)⟩⟩ trivial trivial
        exact calmSteps_nil
      · intro u wz hC hF
        obtain ⟨v3, h3, hv3, hT3⟩ := hC.2 rfl
        clear hC hF
        have HZ := Lib.hid (And.intro h3 (And.intro hv3 hT3)); clear h3 hv3 hT3
        go_wp2
        go_roundg (ns.length - (q + 1))
        case measure => omega
        case rel => exact ⟨q + 1, v3, by omega, by omega, by go_num, HZ.out.1, HZ.out.2.1, HZ.out.2.2⟩
    · obtain rfl : q = ns.length := by omega
      have gp : decide ((ns.length : Int) < (ns.length : Int)) = false := decide_eq_false (by omega)
      have gpn : decide (ns.length < ns.length) = false := decide_eq_false (by omega)
      have hlx := HL2.out
      have hvx := HV2.out
      rw [List.take_length] at hvx hlx
      have HVX := Lib.hid hvx; clear hvx HL2
      have hlx2 : (l ++ word.data.toList ++ ns.flatMap numL).length + 1 ≤ 1000000 := by have h9 := flat_len (ns := ns) HSM.out; have h8 := size_eq word; simp only [List.length_append]; omega
      go_wp2_with fail
      refine (wstr_any B g x0 x1 x2 x3 x4 x5 x6 x7 x8 x9 _ v2 (l ++ word.data.toList ++ ns.flatMap numL) ⟨#[10]⟩ _ HH2.out (.inr rfl) HVX.out hB hlx2).mono ?_
      rintro e w3 ⟨rfl, v3, h3, hv3, hT3⟩
      go_wp2
      go_end0
      exact ⟨rfl, v3, h3, by rw [sayL_eq, ← List.append_assoc, ← List.append_assoc]; exact hv3, HT2.out.trans hT3⟩
end Go.Proofs.YtiinmhfolfgobaaGreatDoor
