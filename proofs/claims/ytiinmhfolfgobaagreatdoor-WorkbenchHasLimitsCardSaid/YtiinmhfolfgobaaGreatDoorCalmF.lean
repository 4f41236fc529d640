/- A quick check of a drawn region's shape: which operations come up ahead of which, as bits of a number. -/
import Derived.Test.YtiinmhfolfgobaaGreatDoorJ3
namespace Go.Proofs.YtiinmhfolfgobaaGreatDoor
open Go
set_option linter.unusedSimpArgs false
set_option linter.unusedVariables false

def calmRow (acc : List Nat) (o : Oper) : Nat := o.after.toList.foldl (fun m e => if Region.binds .any e then (m ||| 2 ^ e.on) ||| acc.getD e.on 0 else m) 0
def dstBit (s : Nat) (o : Oper) : Nat := match o.dst with | none => s | some d => s ||| 2 ^ d
def dstNew (s : Nat) (o : Oper) : Bool := match o.dst with | none => true | some d => !s.testBit d
/-- The rows of bits, if all that is asked holds. -/
def calmGo : List Oper → List (List Nat) → Nat → List Nat → Nat → Option (List Nat)
  | [], _, _, acc, _ => some acc
  | o :: l, Ds, k, acc, s => if (o.after.toList.all fun e => !Region.binds .any e || decide (e.on < k)) && (dstNew s o && (Ds.headD []).all fun j => (calmRow acc o).testBit j) then calmGo l Ds.tail (k + 1) (acc ++ [calmRow acc o]) (dstBit s o) else none
/-- The rows of bits alone. -/
def calmBits : List Oper → List Nat → List Nat
  | [], acc => acc
  | o :: l, acc => calmBits l (acc ++ [calmRow acc o])
def calmBF (l : List Oper) (Ds : List (List Nat)) (chain : List Nat) : Bool := match calmGo l Ds 0 [] 0 with
  | none => false
  | some M => (List.range chain.length).all (fun m => (List.range m).all fun m' => (M.getD (chain.getD m 0) 0).testBit (chain.getD m' 0)) && chain.all (fun i => decide (i < l.length))

theorem foldl_bit {acc : List Nat} {j : Nat} : ∀ (l : List Edge) (m : Nat), (l.foldl (fun m e => if Region.binds .any e then (m ||| 2 ^ e.on) ||| acc.getD e.on 0 else m) m).testBit j = true → m.testBit j = true ∨ ∃ e ∈ l, Region.binds .any e = true ∧ (e.on = j ∨ (acc.getD e.on 0).testBit j = true)
  | [], m, h => .inl h
  | e :: l, m, h => by
    rcases foldl_bit l _ h with h1 | ⟨e', h1, h2⟩
    · dsimp only at h1
      by_cases hb : Region.binds .any e = true
      · rw [if_pos hb, Nat.testBit_or, Nat.testBit_or, Bool.or_eq_true, Bool.or_eq_true, Nat.testBit_two_pow, decide_eq_true_eq] at h1
        rcases h1 with (h1 | h1) | h1
        · exact .inl h1
        · exact .inr ⟨e, by simp, hb, .inl h1⟩
        · exact .inr ⟨e, by simp, hb, .inr h1⟩
      · rw [if_neg hb] at h1; exact .inl h1
    · exact .inr ⟨e', by simp [h1], h2⟩
/-- The rows tell the truth. -/
def BitsOk (ops : Array Oper) (acc : List Nat) : Prop := ∀ i j, (acc.getD i 0).testBit j = true → ∀ fuel, i < fuel → calmReach ops fuel i j = true
theorem bits_next {ops : Array Oper} {acc : List Nat} (h : BitsOk ops acc) {o : Oper} (ho : ops[acc.length]? = some o) : BitsOk ops (acc ++ [calmRow acc o]) := by
  intro i j hb fuel hf
  rw [List.getD_eq_getElem?_getD, List.getElem?_append] at hb
  split at hb
  · rename_i hi
    exact h i j (by rw [List.getD_eq_getElem?_getD]; exact hb) fuel hf
  · rename_i hi
    by_cases e : i = acc.length
    · subst e
      rw [Nat.sub_self, List.getElem?_cons_zero, Option.getD_some] at hb
      unfold calmRow at hb
      rcases foldl_bit _ _ hb with h1 | ⟨e, h1, h2, h3⟩
      · simp at h1
      · cases fuel with
        | zero => omega
        | succ f =>
          have hm : e ∈ o.after := by rw [← Array.mem_toList_iff]; exact h1
          obtain ⟨n, hn, he⟩ := Array.getElem_of_mem hm
          simp only [calmReach, ho, Array.any_eq_true, Bool.and_eq_true, Bool.or_eq_true, beq_iff_eq]
          refine ⟨n, hn, by rw [he]; exact h2, ?_⟩
          rw [he]
          rcases h3 with h3 | h3
          · exact .inl h3
          · refine .inr (h e.on j h3 f ?_)
            have : e.on < acc.length := by
              rcases Nat.lt_or_ge e.on acc.length with q | q
              · exact q
              · rw [List.getD_eq_getElem?_getD, List.getElem?_eq_none q] at h3; simp at h3
            omega
    · have : ([calmRow acc o] : List Nat)[i - acc.length]? = none := List.getElem?_eq_none (by simp; omega)
      rw [this] at hb; simp at hb
theorem bits_ok {ops : Array Oper} : ∀ (l l0 : List Oper) (acc : List Nat), ops.toList = l0 ++ l → acc.length = l0.length → BitsOk ops acc → BitsOk ops (calmBits l acc)
  | [], _, _, _, _, h => h
  | o :: l, l0, acc, he, hl, h => by
    refine bits_ok l (l0 ++ [o]) _ (by rw [he]; simp) (by simp [hl]) (bits_next h ?_)
    rw [← Array.getElem?_toList, he, hl]; simp
theorem go_parts : ∀ (l : List Oper) (Ds : List (List Nat)) (k : Nat) (acc : List Nat) (s : Nat) (M : List Nat), calmGo l Ds k acc s = some M → M = calmBits l acc ∧
    (∀ i o, l[i]? = some o → (∀ e ∈ o.after.toList, Region.binds .any e = true → e.on < k + i) ∧ (∀ d, o.dst = some d → s.testBit d = false) ∧ (∀ i' o', i' < i → l[i']? = some o' → ∀ d, o.dst = some d → o'.dst ≠ some d) ∧ (∀ j ∈ Ds.getD i [], (M.getD (acc.length + i) 0).testBit j = true)) ∧ ∀ p, p < acc.length → M.getD p 0 = acc.getD p 0
  | [], Ds, k, acc, s, M, h => by
    injection h with h; subst h
    exact ⟨rfl, fun i o h => by simp at h, fun _ _ => rfl⟩
  | o :: l, Ds, k, acc, s, M, h => by
    unfold calmGo at h
    split at h
    · rename_i hc
      simp only [Bool.and_eq_true, List.all_eq_true, Bool.or_eq_true, Bool.not_eq_true', decide_eq_true_eq] at hc
      obtain ⟨h1, h2, h3⟩ := hc
      obtain ⟨e1, e2, e3⟩ := go_parts l Ds.tail (k + 1) _ _ M h
      refine ⟨e1, fun i o' ho => ?_, fun p hp => ?_⟩
      · cases i with
        | zero =>
          simp only [List.getElem?_cons_zero, Option.some.injEq] at ho
          subst ho
          refine ⟨fun e he hb => ?_, fun d hd => ?_, fun i' _ hi => by omega, fun j hj => ?_⟩
          · rcases h1 e he with q | q
            · rw [q] at hb; cases hb
            · exact q
          · unfold dstNew at h2; rw [hd] at h2; simpa using h2
          · have := e3 acc.length (by simp)
            rw [Nat.add_zero, this, List.getD_eq_getElem?_getD, List.getElem?_append_right (Nat.le_refl _), Nat.sub_self]
            refine h3 j ?_
            cases Ds with
            | nil => simp at hj
            | cons d Ds => simpa using hj
        | succ i =>
          rw [List.getElem?_cons_succ] at ho
          obtain ⟨q1, q2, q3, q4⟩ := e2 i o' ho
          refine ⟨fun e he hb => by have := q1 e he hb; omega, fun d hd => ?_, fun i' o2 hi h2' d hd => ?_, fun j hj => ?_⟩
          · have := q2 d hd
            unfold dstBit at this
            split at this
            · exact this
            · rw [Nat.testBit_or, Bool.or_eq_false_iff] at this; exact this.1
          · cases i' with
            | zero =>
              simp only [List.getElem?_cons_zero, Option.some.injEq] at h2'
              subst h2'
              intro hx
              have := q2 d hd
              unfold dstBit at this
              rw [hx] at this
              simp only [Nat.testBit_or, Nat.testBit_two_pow, decide_true, Bool.or_true] at this
              cases this
            | succ i' =>
              rw [List.getElem?_cons_succ] at h2'
              exact q3 i' o2 (by omega) h2' d hd
          · have := q4 j (by cases Ds with | nil => simp at hj | cons d Ds => simpa using hj)
            rw [List.length_append, List.length_singleton] at this
            rw [show acc.length + (i + 1) = acc.length + 1 + i by omega]; exact this
      · rw [e3 p (by simp; omega), List.getD_eq_getElem?_getD, List.getElem?_append_left hp, ← List.getD_eq_getElem?_getD]
    · cases h
theorem calmB_of {l : List Oper} {Ds : List (List Nat)} {chain : List Nat} (h : calmBF l Ds chain = true) : calmB l.toArray Ds chain = true := by
  unfold calmBF at h
  split at h
  · cases h
  · rename_i M hM
    obtain ⟨e1, e2, -⟩ := go_parts _ _ _ _ _ _ hM
    have hok : BitsOk l.toArray M := e1 ▸ bits_ok l [] [] rfl rfl (fun i j h => by simp at h)
    simp only [Bool.and_eq_true, List.all_eq_true, List.mem_range, decide_eq_true_eq] at h
    obtain ⟨h4, h5⟩ := h
    have hget : ∀ i, i < l.length → l[i]? = some (l.getD i default) := fun i hi => by rw [List.getElem?_eq_getElem hi, List.getD_eq_getElem?_getD, List.getElem?_eq_getElem hi]; rfl
    unfold calmB
    simp only [Bool.and_eq_true, List.all_eq_true, List.mem_range, List.size_toArray, decide_eq_true_eq]
    refine ⟨⟨⟨⟨fun i hi => ?_, fun i hi j hj => ?_⟩, fun i hi j hj => ?_⟩, fun m hm m' hm' => ?_⟩, h5⟩
    · obtain ⟨q1, -⟩ := e2 i _ (hget i hi)
      rw [List.getElem?_toArray, hget i hi, Option.map_some, Option.getD_some, Array.all_eq_true]
      intro n hn
      rcases hb : Region.binds .any (l.getD i default).after[n] with _ | _
      · rfl
      · have := q1 _ (by rw [Array.mem_toList_iff]; exact Array.getElem_mem hn) hb
        simp only [Bool.not_true, Bool.false_or, decide_eq_true_eq]; omega
    · obtain ⟨-, -, q3, -⟩ := e2 i _ (hget i hi)
      rw [List.getElem?_toArray, List.getElem?_toArray, hget i hi, hget j (by omega), Option.bind_some, Option.bind_some]
      split
      · rename_i d d' hd hd'
        have := q3 j _ hj (hget j (by omega)) d hd
        rw [hd'] at this
        rw [bne_iff_ne]; intro e; subst e; exact this rfl
      · rfl
    · obtain ⟨-, -, -, q4⟩ := e2 i _ (hget i hi)
      have := q4 j hj
      rw [List.length_nil, Nat.zero_add] at this
      exact hok i j this _ hi
    · exact hok _ _ (h4 m hm m' hm') _ (h5 _ (by rw [List.getD_eq_getElem?_getD, List.getElem?_eq_getElem hm]; exact List.getElem_mem _))
theorem calmReach_of {l : List Oper} {i j : Nat} (hi : i < l.length) (h : ((calmBits l []).getD i 0).testBit j = true) : calmReach l.toArray l.length i j = true :=
  (bits_ok (ops := l.toArray) l [] [] rfl rfl (fun i j h => by simp at h)) i j h _ hi
end Go.Proofs.YtiinmhfolfgobaaGreatDoor
