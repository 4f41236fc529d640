/- Lemmas. -/
import Derived.BigQuiet
import Derived.Deep.QuietTactic
import Derived.Test.YtiinmhfolfgobaaGreatDoorPk
set_option linter.unusedVariables false
set_option linter.unusedSimpArgs false
namespace Go.Proofs.YtiinmhfolfgobaaGreatDoor
open Go
def calmReach (ops : Array Oper) : Nat → Nat → Nat → Bool
 | 0, _, _ => false
 | fuel + 1, i, j => match ops[i]? with
  | none => false
  | some o => o.after.any fun e => Region.binds .any e && (e.on == j || calmReach ops fuel e.on j)
def calmPut : List Oper → (Nat → Value) → Nat → Act → Act
 | [], _, _, a => a
 | o :: l, u, k, a => calmPut l u (k + 1) (a.put o.dst (u k))
def upd (u : Nat → Value) (i : Nat) (v : Value) : Nat → Value := fun j => if j = i then v else u j
def calmFacts (u : Nat → Value) (w : World) : List (List Value → Value → World → Prop) → List (List Nat) → Nat → Prop
 | f :: l, d :: ds, k => f (d.map u) (u k) w ∧ calmFacts u w l ds (k + 1)
 | _, _, _ => True
def calmKnown (Fs : List (List Value → Value → World → Prop)) (Ds : List (List Nat)) (u : Nat → Value) (w : World) : List Nat → Prop
 | [] => True
 | j :: l => (match Fs[j]? with | some f => f ((Ds.getD j []).map u) (u j) w | none => True) ∧ calmKnown Fs Ds u w l
def calmAt (chain : List Nat) (listed : Array Bool) : Nat := (chain.takeWhile fun j => listed.getD j false).length
def calmB (ops : Array Oper) (Ds : List (List Nat)) (chain : List Nat) : Bool :=
 (List.range ops.size).all (fun i => ((ops[i]?).map fun o => o.after.all fun e => !Region.binds .any e || decide (e.on < i)).getD true) &&
 (List.range ops.size).all (fun i => (List.range i).all fun j => match (ops[i]?).bind (·.dst), (ops[j]?).bind (·.dst) with | some d, some d' => d != d' | _, _ => true) &&
 (List.range ops.size).all (fun i => (Ds.getD i []).all fun j => calmReach ops ops.size i j) &&
 (List.range chain.length).all (fun m => (List.range m).all fun m' => calmReach ops ops.size (chain.getD m 0) (chain.getD m' 0)) &&
 chain.all (fun i => decide (i < ops.size))
section
variable {P : Program} {ops : Array Oper}
theorem calmPut_put (d : Option Tmp) (v : Value) : ∀ (l : List Oper) (u : Nat → Value) (k : Nat) (a : Act), (∀ o ∈ l, ∀ x, d = some x → o.dst ≠ some x) → (calmPut l u k a).put d v = calmPut l u k (a.put d v)
 | [], _, _, _, _ => rfl
 | o :: l, u, k, a, h => by
  simp only [calmPut]
  rw [calmPut_put d v l u (k + 1) _ (fun o' h' => h o' (by simp [h'])), Act.put_comm a v (u k) (h o Ys) |>.symm]
theorem Act.put_put (a : Act) (d : Option Tmp) (v x : Value) : (a.put d v).put d x = a.put d x := by
 cases d with
 | none => rfl
 | some d => simp [Act.put, Array.setIfInBounds_setIfInBounds]
theorem calmPut_congr : ∀ (l : List Oper) (u u' : Nat → Value) (k : Nat) (a : Act), (∀ j, k ≤ j → j < k + l.length → u j = u' j) → calmPut l u k a = calmPut l u' k a
 | [], _, _, _, _, _ => rfl
 | o :: l, u, u', k, a, h => by
  simp only [calmPut]
  rw [h k (Nat.le_refl _) Ys, calmPut_congr l u u' (k + 1) _ (fun j h1 h2 => h j Yo (by simp; omega))]
theorem calmPut_upd (v : Value) : ∀ (l : List Oper) (u : Nat → Value) (k i : Nat) (a : Act), i < l.length → (∀ (p q : Nat) (o o' : Oper), l[p]? = some o → l[q]? = some o' → q < p → ∀ x, o.dst = some x → o'.dst ≠ some x) →
  (calmPut l u k a).put ((l[i]?).bind (·.dst)) v = calmPut l (upd u (k + i) v) k a
 | [], _, _, _, _, h, _ => by simp at h
 | o :: l, u, k, 0, a, _, hd => by
  simp only [calmPut, lg0, Option.bind_some, Nat.add_zero]
  rw [calmPut_put, Act.put_put, show upd u k v k = v by simp [upd]]
  ·exact calmPut_congr _ _ _ _ _ (fun j h1 h2 => by simp [upd]; omega)
  ·intro o' h' x hx hx'
   obtain ⟨p, hp, he⟩ := List.getElem_of_mem h'
   exact hd (p + 1) 0 o' o (by simp [hp, he]) Ys Yo x hx' hx
 | o :: l, u, k, i + 1, a, h, hd => by
  simp only [calmPut, lg1]
  rw [calmPut_upd v l u (k + 1) i _ (by simpa using h) (fun p q o o' h1 h2 h3 => hd (p + 1) (q + 1) o o' (by simpa using h1) (by simpa using h2) Yo), show upd u (k + (i + 1)) v k = u k by simp [upd]]
  exact congrArg (fun z => calmPut l (upd u z v) (k + 1) _) Yo
theorem calmPut_self (a : Act) : ∀ (l : List Oper) (k : Nat), calmPut l (fun j => ((l[j - k]?).bind (·.dst)).bind (a.tmps[·]?) |>.getD undef) k a = a
 | [], _ => rfl
 | o :: l, k => by
  simp only [calmPut]
  have h0 : a.put o.dst (((((o :: l)[k - k]?).bind (·.dst)).bind (a.tmps[·]?)).getD undef) = a := by
   simp only [Nat.sub_self, lg0, Option.bind_some]
   cases hd : o.dst with
   | none => rfl
   | some d =>
    obtain ⟨t, df⟩ := a
    simp only [Act.put, Option.bind_some]
    rcases Nat.lt_or_ge d t.size with h | h
    ·have e : t.setIfInBounds d (t[d]?.getD undef) = t := by
      apply Array.ext_getElem?
      intro i
      rw [Array.getElem?_setIfInBounds]
      split
      ·rename_i e; subst e; simp [h]
      ·rfl
     exact congrArg (fun z => (⟨z, df⟩ : Act)) e
    ·rw [Array.setIfInBounds_eq_of_size_le h]
  rw [h0]
  refine Eq.trans (calmPut_congr _ _ _ _ _ fun j h1 h2 => ?_) (calmPut_self a l (k + 1))
  obtain ⟨m, rfl⟩ : ∃ m, j = k + 1 + m := ⟨j - (k + 1), Yo⟩
  have e1 : k + 1 + m - k = m + 1 := by omega
  have e2 : k + 1 + m - (k + 1) = m := by omega
  simp only [e1, e2, lg1]
def Closed (ops : Array Oper) (listed : Array Bool) : Prop := ∀ i o, ops[i]? = some o → listed.getD i false = true → ∀ e ∈ o.after, Region.binds .any e = true → listed.getD e.on false = true
theorem reach_listed {listed : Array Bool} (hc : Closed ops listed) : ∀ (fuel i j : Nat) (o : Oper), ops[i]? = some o → (∀ e ∈ o.after, Region.binds .any e = true → listed.getD e.on false = true) → calmReach ops fuel i j = true → listed.getD j false = true
 | 0, _, _, _, _, _, h => by simp [calmReach] at h
 | fuel + 1, i, j, o, ho, hall, h => by
  simp only [calmReach, ho, Array.any_eq_true, Bool.and_eq_true, Bool.or_eq_true, beq_iff_eq] at h
  obtain ⟨n, hn, hb, h⟩ := h
  have hl := hall _ (Array.getElem_mem hn) hb
  rcases h with h | h
  ·rw [← h]; exact hl
  ·cases ho' : ops[(o.after[n]).on]? with
   | none => cases fuel <;> simp [calmReach, ho'] at h
   | some o' => exact reach_listed hc fuel _ j o' ho' (fun e he hb' => hc _ _ ho' hl e he hb') h
theorem facts_of {u : Nat → Value} {w : World} : ∀ (l : List (List Value → Value → World → Prop)) (ds : List (List Nat)) (k : Nat), (∀ (j : Nat) (f : List Value → Value → World → Prop), l[j]? = some f → f ((ds.getD j []).map u) (u (k + j)) w) → calmFacts u w l ds k
 | [], _, _, _ => by unfold calmFacts; trivial
 | _ :: _, [], _, _ => by unfold calmFacts; trivial
 | f :: l, d :: ds, k, h => ⟨by simpa using h 0 f rfl, facts_of l ds (k + 1) (fun j g hg => by have := h (j + 1) g (by simpa using hg); rw [show k + 1 + j = k + (j + 1) by omega]; simpa [List.getD] using this)⟩
theorem known_of {Fs : List (List Value → Value → World → Prop)} {Ds : List (List Nat)} {u : Nat → Value} {w : World} : ∀ (l : List Nat), (∀ j ∈ l, ∀ f : List Value → Value → World → Prop, Fs[j]? = some f → f ((Ds.getD j []).map u) (u j) w) → calmKnown Fs Ds u w l
 | [], _ => trivial
 | j :: l, h => by
  refine ⟨?_, known_of l (fun j' h' => h j' (by simp [h']))⟩
  split
  ·rename_i f hf; exact h j Ys f hf
  ·trivial
theorem takeWhile_len {p : Nat → Bool} : ∀ (l : List Nat) (m : Nat), m ≤ l.length → (∀ m' x, m' < m → l[m']? = some x → p x = true) → (∀ x, l[m]? = some x → p x = false) → (l.takeWhile p).length = m
 | [], m, h, _, _ => by simp at h; simp [h]
 | y :: l, 0, _, _, h2 => by simp [List.takeWhile, h2 y rfl]
 | y :: l, m + 1, h, h1, h2 => by
  rw [List.takeWhile_cons, if_pos (h1 0 y Yo rfl), List.length_cons, takeWhile_len l m (by simpa using h) (fun m' x hm hx => h1 (m' + 1) x Yo (by simpa using hx)) (fun x hx => h2 x (by simpa using hx))]
theorem takeWhile_le {p : Nat → Bool} : ∀ (l : List Nat) (m j : Nat), l[m]? = some j → p j = false → (l.takeWhile p).length ≤ m
 | [], _, _, h, _ => by simp at h
 | y :: l, 0, j, h, hp => by
  simp at h; subst h
  simp [List.takeWhile, hp]
 | y :: l, m + 1, j, h, hp => by
  rw [List.takeWhile_cons]
  split
  ·rw [List.length_cons]
   exact Nat.succ_le_succ (takeWhile_le l m j (by simpa using h) hp)
  ·simp
theorem takeWhile_congr' {p q : Nat → Bool} : ∀ (l : List Nat), (∀ x ∈ l, p x = q x) → l.takeWhile p = l.takeWhile q
 | [], _ => rfl
 | y :: l, h => by
  rw [List.takeWhile_cons, List.takeWhile_cons, h y Ys, takeWhile_congr' l (fun x hx => h x (by simp [hx]))]
structure CalmSpec (P : Program) (ops : Array Oper) (Q : Exit → Act → World → Prop) (C : Nat → List Value → World → Prop) (R : World → World → Prop) (Fs : List (List Value → Value → World → Prop)) (Ds : List (List Nat)) (chain sel : List Nat) (a : Act) : Prop where
 keep : ∀ (i : Nat) (f : List Value → Value → World → Prop), Fs[i]? = some f → ∀ d v w w', R w w' → f d v w → f d v w'
 step : ∀ (i : Nat) (o : Oper) (f : List Value → Value → World → Prop), ops[i]? = some o → Fs[i]? = some f → ∀ (u : Nat → Value) (w : World) (n : Nat), (∀ m, chain[m]? = some i → n = m) → (∀ m j, chain[m]? = some j → calmReach ops ops.size j i = true → n ≤ m) → C n (sel.map u) w → calmKnown Fs Ds u w (Ds.getD i []) →
  ∀ K : Act → World → Prop, (∀ v w', C (if chain.contains i then n + 1 else n) (sel.map (upd u i v)) w' → R w w' → f ((Ds.getD i []).map u) v w' → K ((calmPut ops.toList u 0 a).put o.dst v) w') → wpOp P ops Q i K (calmPut ops.toList u 0 a) w
 last : ∀ (u : Nat → Value) (w : World), C chain.length (sel.map u) w → calmFacts u w Fs Ds 0 → Q .normal (calmPut ops.toList u 0 a) w
variable {Q : Exit → Act → World → Prop} {C : Nat → List Value → World → Prop} {R : World → World → Prop} {Fs : List (List Value → Value → World → Prop)} {Ds : List (List Nat)} {chain sel : List Nat} {a : Act}
theorem calm_any (S : CalmSpec P ops Q C R Fs Ds chain sel a) (hlen : Fs.length = ops.size) (hB : calmB ops Ds chain = true) :
  ∀ (fuel : Nat) (listed : Array Bool) (u : Nat → Value) (w : World), listed.size = ops.size → Closed ops listed → (listed.toList.filter (! ·)).length ≤ fuel → C (calmAt chain listed) (sel.map u) w →
   (∀ (j : Nat) (f : List Value → Value → World → Prop), Fs[j]? = some f → listed.getD j false = true → f ((Ds.getD j []).map u) (u j) w) → wpAny P .any ops Q fuel listed (calmPut ops.toList u 0 a) w := by
 simp only [calmB, Bool.and_eq_true, List.all_eq_true, List.mem_range] at hB
 obtain ⟨⟨⟨⟨hB1, hB2⟩, hB3⟩, hB4⟩, hB5⟩ := hB
 have back : ∀ i o, ops[i]? = some o → ∀ e ∈ o.after, Region.binds .any e = true → e.on < i := by
  intro i o ho e he hb
  have h := hB1 i (Array.getElem?_eq_some_iff.1 ho).1
  simp only [ho, Option.map_some, Option.getD_some, Array.all_eq_true] at h
  obtain ⟨n, hn, rfl⟩ := Array.getElem_of_mem he
  have h2 := h n hn
  simp only [hb, Bool.not_true, Bool.false_or, decide_eq_true_eq] at h2
  exact h2
 have dist : ∀ (p q : Nat) (o o' : Oper), ops.toList[p]? = some o → ops.toList[q]? = some o' → q < p → ∀ x, o.dst = some x → o'.dst ≠ some x := by
  intro p q o o' hp hq hqp x hx hx'
  rw [Array.getElem?_toList] at hp hq
  have h := hB2 p (Array.getElem?_eq_some_iff.1 hp).1 q hqp
  simp [hp, hq, hx, hx'] at h
 -- none ready: all are listed
 have all : ∀ listed : Array Bool, listed.size = ops.size → Region.ready .any ops listed = [] → ∀ i, i < ops.size → listed.getD i false = true := by
  intro listed hs hr i
  induction i using Nat.strongRecOn with
  | ind i ih =>
   intro hi
   rcases h : listed.getD i false with _ | _
   ·exfalso
    have hmem : i ∈ Region.ready .any ops listed := by
     rw [mem_ready]
     refine ⟨?_, ops[i], by simp [hi], fun e he hb => ih e.on (back i _ (by simp [hi]) e he hb) (Nat.lt_trans (back i _ (by simp [hi]) e he hb) hi)⟩
     rw [Array.getD_eq_getD_getElem?, Array.getElem?_eq_getElem Yo] at h ⊢
     exact h
    rw [hr] at hmem; cases hmem
   ·rfl
 have done : ∀ (listed : Array Bool) (u : Nat → Value) (w : World), listed.size = ops.size → C (calmAt chain listed) (sel.map u) w → (∀ (j : Nat) (f : List Value → Value → World → Prop), Fs[j]? = some f → listed.getD j false = true → f ((Ds.getD j []).map u) (u j) w) → Region.ready .any ops listed = [] → Q .normal (calmPut ops.toList u 0 a) w := by
  intro listed u w hs hC hF hr
  have hall := all listed hs hr
  refine S.last u w ?_ (facts_of _ _ _ fun j f hf => ?_)
  ·rwa [show calmAt chain listed = chain.length from by
    refine takeWhile_len _ _ (Nat.le_refl _) (fun m' x _ hx => hall x ?_) (fun x hx => by simp at hx)
    exact of_decide_eq_true (hB5 x (List.mem_of_getElem? hx))] at hC
  ·have hj : j < ops.size := by rw [← hlen]; exact (List.getElem?_eq_some_iff.1 hf).1
   simpa using hF j f hf (hall j hj)
 intro fuel
 induction fuel with
 | zero =>
  intro listed u w hs hcl hfu hC hF
  have hr : Region.ready .any ops listed = [] := by
   cases hr : Region.ready .any ops listed with
   | nil => rfl
   | cons i l =>
    exfalso
    have hi : i ∈ Region.ready .any ops listed := by rw [hr]; simp
    obtain ⟨h0, o, ho, _⟩ := mem_ready.1 hi
    have hlt : i < listed.size := by rw [hs]; exact (Array.getElem?_eq_some_iff.1 ho).1
    rw [Array.getD_eq_getD_getElem?, Array.getElem?_eq_getElem hlt] at h0
    have : listed[i] ∈ listed.toList.filter (! ·) := by
     rw [List.mem_filter]; exact ⟨by simp, by simpa using h0⟩
    have h1 := List.length_pos_of_mem this
    omega
  exact ⟨hr, done listed u w hs hC hF hr⟩
 | succ fuel ih =>
  intro listed u w hs hcl hfu hC hF
  refine ⟨fun hr => done listed u w hs hC hF hr, fun i hi => ?_⟩
  obtain ⟨h0, o, ho, hall⟩ := mem_ready.1 hi
  have hlt : i < ops.size := (Array.getElem?_eq_some_iff.1 ho).1
  have hf : Fs[i]? = some (Fs[i]'Yo) := Y9 _
  have h0' : listed.getD i false = false := by
   rw [Array.getD_eq_getD_getElem?, Array.getElem?_eq_getElem Yo] at h0 ⊢; exact h0
  have kn : ∀ j, calmReach ops ops.size i j = true → listed.getD j false = true := fun j hj => reach_listed hcl _ i j o ho hall hj
  have un : ∀ j, calmReach ops ops.size j i = true → listed.getD j false = false := by
   intro j hj
   rcases h : listed.getD j false with _ | _
   ·rfl
   ·exfalso
    cases hoj : ops[j]? with
    | none => cases hsz : ops.size with
     | zero => omega
     | succ s => rw [hsz] at hj; simp [calmReach, hoj] at hj
    | some oj =>
     have := reach_listed hcl _ j i oj hoj (fun e he hb => hcl j oj hoj h e he hb) hj
     rw [h0'] at this; cases this
  have pos : ∀ m, chain[m]? = some i → calmAt chain listed = m ∧ calmAt chain (listed.setIfInBounds i true) = m + 1 := by
   intro m hm
   have hml : m < chain.length := (List.getElem?_eq_some_iff.1 hm).1
   have pre : ∀ m' x, m' < m → chain[m']? = some x → listed.getD x false = true := by
    intro m' x h1 h2
    refine kn x ?_
    have := hB4 m hml m' h1
    simpa [List.getD, hm, h2] using this
   constructor
   ·exact takeWhile_len _ _ Yo pre (fun x hx => by rw [hm] at hx; cases hx; exact h0')
   ·refine takeWhile_len _ _ Yo (fun m' x h1 h2 => ?_) (fun x hx => ?_)
    ·by_cases he : m' = m
     ·subst he; rw [hm] at h2; cases h2
      simp [Array.getD_eq_getD_getElem?, hs, hlt]
     ·exact getD_set_true (pre m' x Yo h2)
    ·have h1 : calmReach ops ops.size x i = true := by
      have := hB4 (m + 1) (List.getElem?_eq_some_iff.1 hx).1 m Yo
      simpa [List.getD, hm, hx] using this
     have hne : i ≠ x := by
      intro e; subst e
      have hh : ∀ fuel j k, calmReach ops fuel j k = true → k < j := by
       intro fuel
       induction fuel with
       | zero => intro j k h; simp [calmReach] at h
       | succ fuel ih =>
        intro j k h
        simp only [calmReach] at h
        split at h
        ·cases h
        ·rename_i oj hoj
         simp only [Array.any_eq_true, Bool.and_eq_true, Bool.or_eq_true, beq_iff_eq] at h
         obtain ⟨n, hn, hb, h⟩ := h
         have hb2 := back j oj hoj _ (Array.getElem_mem hn) hb
         rcases h with h | h
         ·omega
         ·have := ih _ _ h; omega
      have := hh _ _ _ h1
      omega
     show (listed.setIfInBounds i true).getD x false = false
     rw [getD_set_ne false hne]
     exact un x h1
  refine S.step i o _ ho hf u w (calmAt chain listed) (fun m hm => (pos m hm).1) (fun m j hm hr => takeWhile_le _ m j hm (un j hr)) hC (known_of _ fun j hj f hjf => ?_) _ (fun v w' hC' hR hv => ?_)
  ·refine hF j f hjf (kn j ?_)
   have := hB3 i hlt
   exact this j hj
  ·have e : (calmPut ops.toList u 0 a).put o.dst v = calmPut ops.toList (upd u i v) 0 a := by
    have := calmPut_upd v ops.toList u 0 i a (by simpa using hlt) dist
    simpa [ho] using this
   rw [e]
   refine ih _ _ _ (by simpa using hs) ?_ ?_ ?_ ?_
   ·intro j oj hoj hlj e2 he2 hb2
    by_cases hji : j = i
    ·subst hji; rw [ho] at hoj; cases hoj
     exact getD_set_true (hall e2 he2 hb2)
    ·rw [getD_set_ne false (Ne.symm hji)] at hlj
     exact getD_set_true (hcl j oj hoj hlj e2 he2 hb2)
   ·have h1 : ((listed.setIfInBounds i true).toList.filter (! ·)).length < (listed.toList.filter (! ·)).length := by
     have hil : i < listed.toList.length := by simp; omega
     have hx : listed.toList[i] = false := by
      rw [Array.getD_eq_getD_getElem?, Array.getElem?_eq_getElem Yo] at h0
      simpa using h0
     have e1 : listed.toList = listed.toList.take i ++ false :: listed.toList.drop (i + 1) := by
      rw [← hx, List.getElem_cons_drop, List.take_append_drop]
     have e2 : (listed.setIfInBounds i true).toList = listed.toList.take i ++ true :: listed.toList.drop (i + 1) := by
      rw [Array.toList_setIfInBounds, List.set_eq_take_append_cons_drop, if_pos hil]
     rw [e2]
     conv => rhs; rw [e1]
     simp
    omega
   ·by_cases hin : i ∈ chain
    ·obtain ⟨m, hm, he⟩ := List.getElem_of_mem hin
     have hm' : chain[m]? = some i := by rw [Y9 hm, he]
     rw [(pos m hm').2]
     rw [(pos m hm').1, if_pos (by simpa using hin)] at hC'
     exact hC'
    ·rw [if_neg (by simpa using hin)] at hC'
     rwa [show calmAt chain (listed.setIfInBounds i true) = calmAt chain listed from by
      unfold calmAt
      rw [takeWhile_congr' chain fun x hx => ?_]
      exact getD_set_ne false (fun e => hin (e ▸ hx))]
   ·intro j f hjf hlj
    have same : (Ds.getD j []).map (upd u i v) = (Ds.getD j []).map u := by
     refine List.map_congr_left fun k hk => ?_
     have hj : j < ops.size := by rw [← hlen]; exact (List.getElem?_eq_some_iff.1 hjf).1
     have hr := hB3 j hj k hk
     have hki : k ≠ i := by
      intro e; subst e
      by_cases hji : j = k
      ·subst hji
       have := un j hr
       have h2 := kn j hr
       rw [h0'] at h2; cases h2
      ·rw [getD_set_ne false (Ne.symm hji)] at hlj
       have := un j hr
       rw [hlj] at this; cases this
     simp [upd, hki]
    rw [same]
    by_cases hji : j = i
    ·subst hji
     rw [hf] at hjf; cases hjf
     simpa [upd] using hv
    ·rw [getD_set_ne false (Ne.symm hji)] at hlj
     simp only [upd, hji, if_false]
     exact S.keep j f hjf _ _ _ _ hR (hF j f hjf hlj)
def CalmStep (P : Program) (ops : Array Oper) (Q : Exit → Act → World → Prop) (C : Nat → List Value → World → Prop) (R : World → World → Prop) (Fs : List (List Value → Value → World → Prop)) (Ds : List (List Nat)) (chain sel : List Nat) (A : (Nat → Value) → Act) (o : Oper) (f : List Value → Value → World → Prop) (d : List Nat) (i : Nat) : Prop :=
 ∀ (u : Nat → Value) (w : World) (n : Nat), (∀ m, chain[m]? = some i → n = m) → (∀ m j, chain[m]? = some j → calmReach ops ops.size j i = true → n ≤ m) → C n (sel.map u) w → calmKnown Fs Ds u w d → ∀ K : Act → World → Prop,
  (∀ a' v w', a' = (A u).put o.dst v → C (if chain.contains i then n + 1 else n) (sel.map (upd u i v)) w' → R w w' → f (d.map u) v w' → K a' w') →
  if Region.wanted o (yielded ops (A u).tmps) = true then Oper.wp P o (A u) w K Q else K ((A u).put o.dst undef) w
def CalmSteps (P : Program) (ops : Array Oper) (Q : Exit → Act → World → Prop) (C : Nat → List Value → World → Prop) (R : World → World → Prop) (Fs : List (List Value → Value → World → Prop)) (Ds : List (List Nat)) (chain sel : List Nat) (A : (Nat → Value) → Act) : List Oper → List (List Value → Value → World → Prop) → List (List Nat) → Nat → Prop
 | [], _, _, _ => True
 | o :: l, f :: fs, d :: ds, i => CalmStep P ops Q C R Fs Ds chain sel A o f d i ∧ CalmSteps P ops Q C R Fs Ds chain sel A l fs ds (i + 1)
 | _ :: _, _, _, _ => False
def CalmKeep (R : World → World → Prop) : List (List Value → Value → World → Prop) → Prop
 | [] => True
 | f :: l => (∀ d v w w', R w w' → f d v w → f d v w') ∧ CalmKeep R l
theorem calmKeep_nil : CalmKeep R [] := trivial
theorem calmKeep_cons {f : List Value → Value → World → Prop} {l : List (List Value → Value → World → Prop)} (h : ∀ d v w w', R w w' → f d v w → f d v w') (h' : CalmKeep R l) : CalmKeep R (f :: l) := ⟨h, h'⟩
theorem calmKeep_of : ∀ {l : List (List Value → Value → World → Prop)}, CalmKeep R l → ∀ (i : Nat) (f : List Value → Value → World → Prop), l[i]? = some f → ∀ d v w w', R w w' → f d v w → f d v w'
 | [], _, _, _, h => by simp at h
 | g :: l, h, 0, f, he => by simp at he; subst he; exact h.1
 | g :: l, h, i + 1, f, he => calmKeep_of h.2 i f (by simpa using he)
variable {A : (Nat → Value) → Act}
theorem calmSteps_nil {fs : List (List Value → Value → World → Prop)} {ds : List (List Nat)} {i : Nat} : CalmSteps P ops Q C R Fs Ds chain sel A [] fs ds i := by unfold CalmSteps; trivial
theorem calmSteps_cons {o : Oper} {l : List Oper} {f : List Value → Value → World → Prop} {fs : List (List Value → Value → World → Prop)} {d : List Nat} {ds : List (List Nat)} {i : Nat}
  (h : CalmStep P ops Q C R Fs Ds chain sel A o f d i) (h' : CalmSteps P ops Q C R Fs Ds chain sel A l fs ds (i + 1)) : CalmSteps P ops Q C R Fs Ds chain sel A (o :: l) (f :: fs) (d :: ds) i := ⟨h, h'⟩
theorem calmSteps_of : ∀ {l : List Oper} {fs : List (List Value → Value → World → Prop)} {ds : List (List Nat)} {i : Nat}, CalmSteps P ops Q C R Fs Ds chain sel A l fs ds i → ∀ (j : Nat) (o : Oper) (f : List Value → Value → World → Prop), l[j]? = some o → fs[j]? = some f →
  CalmStep P ops Q C R Fs Ds chain sel A o f (ds.getD j []) (i + j)
 | [], _, _, _, _, _, _, _, h, _ => by simp at h
 | o :: l, [], ds, i, h, _, _, _, _, _ => by unfold CalmSteps at h; exact h.elim
 | o :: l, f :: fs, [], i, h, _, _, _, _, _ => by unfold CalmSteps at h; exact h.elim
 | o :: l, f :: fs, d :: ds, i, h, 0, o', f', h1, h2 => by
  simp at h1 h2; subst h1; subst h2
  exact h.1
 | o :: l, f :: fs, d :: ds, i, h, j + 1, o', f', h1, h2 => by
  have := calmSteps_of h.2 j o' f' (by simpa using h1) (by simpa using h2)
  rw [show i + 1 + j = i + (j + 1) by omega] at this
  simpa [List.getD] using this
theorem calm_wanted {o : Oper} {i : Nat} {K : Act → World → Prop} {b : Act} {w : World} (ho : ops[i]? = some o)
  (h : if Region.wanted o (yielded ops b.tmps) = true then Oper.wp P o b w K Q else K (b.put o.dst undef) w) : wpOp P ops Q i K b w := by
 unfold wpOp
 simp only [ho]
 split
 ·rename_i hw; rw [if_pos hw] at h; exact .inl h
 ·rename_i hw; rw [if_neg hw] at h; exact h
theorem wp_region_calm {id : Nat} {l : List Oper} {Q : Exit → Act → World → Prop} {a : Act} {w : World} (hm : P.follows .mixedOrders = true)
  (C : Nat → List Value → World → Prop) (R : World → World → Prop) (Fs : List (List Value → Value → World → Prop)) (Ds : List (List Nat)) (chain sel : List Nat)
  (hlen : Fs.length = l.length) (hB : calmB l.toArray Ds chain = true) (hA : ∀ u, calmPut l u 0 a = A u) (hC : ∀ us, C 0 us w.drew) (hk : CalmKeep R Fs)
  (hs : CalmSteps P l.toArray Q C R Fs Ds chain sel A l Fs Ds 0) (hl : ∀ (u : Nat → Value) (w' : World), C chain.length (sel.map u) w' → calmFacts u w' Fs Ds 0 → Q .normal (A u) w') :
  (Code.region id l.toArray true).wp P Q a w := by
 refine wp_region_any hm ?_
 have S : CalmSpec P l.toArray Q C R Fs Ds chain sel a := by
  refine ⟨calmKeep_of hk, fun i o f ho hf u w n hn hn2 hC hkn K hK => ?_, fun u w' h1 h2 => by rw [show l.toArray.toList = l from rfl, hA]; exact hl u w' h1 h2⟩
  refine calm_wanted ho ?_
  rw [show l.toArray.toList = l from rfl, hA] at *
  have h := calmSteps_of hs i o f (by simpa using ho) hf
  rw [Nat.zero_add] at h
  exact h u w n hn hn2 hC hkn K (fun a' v w' he h1 h2 h3 => he ▸ hK v w' h1 h2 h3)
 have h := calm_any S (by simpa using hlen) hB l.toArray.size (Array.replicate l.toArray.size false) (fun j => ((l[j - 0]?).bind (·.dst)).bind (a.tmps[·]?) |>.getD undef) w.drew Ys ?_ ?_ ?_ ?_
 ·rw [show l.toArray.toList = l from rfl, calmPut_self] at h
  exact h
 ·intro i o _ hl
  exfalso
  rw [Array.getD_eq_getD_getElem?] at hl
  simp [Array.getElem?_replicate] at hl
  split at hl <;> simp at hl
 ·exact Nat.le_trans (List.length_filter_le _ _) Ys
 ·rw [show calmAt chain (Array.replicate l.toArray.size false) = 0 from ?_]
  ·exact hC _
  ·unfold calmAt
   cases chain with
   | nil => rfl
   | cons x l' =>
    rw [List.takeWhile_cons, if_neg]
    ·rfl
    ·simp only [Array.getD_eq_getD_getElem?, Array.getElem?_replicate]
     split <;> simp
 ·intro j f _ hl
  exfalso
  simp only [Array.getD_eq_getD_getElem?, Array.getElem?_replicate] at hl
  split at hl <;> simp at hl
def Is (c : Value) : List Value → Value → World → Prop := fun _ v _ => v = c
end
theorem kcc {R : World → World → Prop} {f : List Value → Value → World → Prop} {l : List (List Value → Value → World → Prop)} (h : ∀ d v w w', R w w' → f d v w → f d v w') (k : CalmKeep R l) : CalmKeep R (f :: l) := calmKeep_cons h k
theorem zq0 {P : Program} {ops : Array Oper} {Q : Exit → Act → World → Prop} {C : Nat → List Value → World → Prop} {R : World → World → Prop} {Fs : List (List Value → Value → World → Prop)} {Ds : List (List Nat)} {chain sel : List Nat} {A : (Nat → Value) → Act} {o : Oper} {l : List Oper} {f : List Value → Value → World → Prop} {fs : List (List Value → Value → World → Prop)} {d : List Nat} {ds : List (List Nat)} {i : Nat} (h' : CalmSteps P ops Q C R Fs Ds chain sel A l fs ds (i + 1)) (h : CalmStep P ops Q C R Fs Ds chain sel A o f d i := by intro u wq n hn hn2 hC hk K hK; (first | (simp only [calmKnown, List.getElem?_cons_zero, List.getElem?_cons_succ, and_true, Is, Pure, Option.some.injEq, List.getD_cons_zero, List.getD_cons_succ, List.map_cons, List.map_nil] at hk; simp only [hk] at hK ⊢) | skip); clear hk hn hn2; have HC := Lib.hid hC; clear hC; go_simp; exact hK _ _ _ rfl HC.out (by first | exact True.intro | exact Past.refl _ _ | exact Below.refl _ _ | exact PastT.refl _ _ _ | exact grown_belowP _ (Below.refl _ _) | exact fun _ h => h) rfl) : CalmSteps P ops Q C R Fs Ds chain sel A (o :: l) (f :: fs) (d :: ds) i := calmSteps_cons h h'
theorem zq1 {P : Program} {ops : Array Oper} {Q : Exit → Act → World → Prop} {C : Nat → List Value → World → Prop} {R : World → World → Prop} {Fs : List (List Value → Value → World → Prop)} {Ds : List (List Nat)} {chain sel : List Nat} {A : (Nat → Value) → Act} {o : Oper} {l : List Oper} {f : List Value → Value → World → Prop} {fs : List (List Value → Value → World → Prop)} {d : List Nat} {ds : List (List Nat)} {i : Nat} {E : (Nat → Value) → Nat → World → Prop} (e : ∀ (u : Nat → Value) (w : World) (n : Nat), (∀ m, chain[m]? = some i → n = m) → (∀ m j, chain[m]? = some j → calmReach ops ops.size j i = true → n ≤ m) → C n (sel.map u) w → E u n w) (h' : CalmSteps P ops Q C R Fs Ds chain sel A l fs ds (i + 1)) (h : ∀ (u : Nat → Value) (w : World) (n : Nat), E u n w → C n (sel.map u) w → calmKnown Fs Ds u w d → ∀ K : Act → World → Prop, (∀ a' v w', a' = (A u).put o.dst v → C (if chain.contains i then n + 1 else n) (sel.map (upd u i v)) w' → R w w' → f (d.map u) v w' → K a' w') → if Region.wanted o (yielded ops (A u).tmps) = true then Oper.wp P o (A u) w K Q else K ((A u).put o.dst undef) w := by intro u wq n he hC hk K hK; (first | (simp only [calmKnown, List.getElem?_cons_zero, List.getElem?_cons_succ, and_true, Is, Pure, Option.some.injEq, List.getD_cons_zero, List.getD_cons_succ, List.map_cons, List.map_nil] at hk; simp only [hk] at hK ⊢) | skip); clear hk; have HC := Lib.hid hC; clear hC; (try dsimp only at he); go_simp; exact hK _ _ _ rfl HC.out (by first | exact True.intro | exact Past.refl _ _ | exact Below.refl _ _ | exact PastT.refl _ _ _ | exact grown_belowP _ (Below.refl _ _) | exact fun _ h => h) rfl) : CalmSteps P ops Q C R Fs Ds chain sel A (o :: l) (f :: fs) (d :: ds) i := calmSteps_cons (fun u w n hn hn2 hC hk K hK => h u w n (e u w n hn hn2 hC) hC hk K hK) h'
end Go.Proofs.YtiinmhfolfgobaaGreatDoor
namespace Go.Proofs.YtiinmhfolfgobaaGreatDoor
open Go
section
variable {P : Program} {ops : Array Oper}
variable {A : (Nat → Value) → Act}
theorem wp_region_calmS {id : Nat} {l : List Oper} {Q : Exit → Act → World → Prop} {a : Act} {w : World} (hm : P.follows .mixedOrders = true)
  (C : Nat → List Value → World → Prop) (R : World → World → Prop) (Fs : List (List Value → Value → World → Prop)) (Ds : List (List Nat)) (chain sel : List Nat)
  (hlen : Fs.length = l.length) (hB : calmB l.toArray Ds chain = true) (hA : ∀ u, calmPut l u 0 a = A u) (hC : C 0 (sel.map fun j => ((l[j - 0]?).bind (·.dst)).bind (a.tmps[·]?) |>.getD undef) w.drew) (hk : CalmKeep R Fs)
  (hs : CalmSteps P l.toArray Q C R Fs Ds chain sel A l Fs Ds 0) (hl : ∀ (u : Nat → Value) (w' : World), C chain.length (sel.map u) w' → calmFacts u w' Fs Ds 0 → Q .normal (A u) w') :
  (Code.region id l.toArray true).wp P Q a w := by
 refine wp_region_any hm ?_
 have S : CalmSpec P l.toArray Q C R Fs Ds chain sel a := by
  refine ⟨calmKeep_of hk, fun i o f ho hf u w n hn hn2 hC hkn K hK => ?_, fun u w' h1 h2 => by rw [show l.toArray.toList = l from rfl, hA]; exact hl u w' h1 h2⟩
  refine calm_wanted ho ?_
  rw [show l.toArray.toList = l from rfl, hA] at *
  have h := calmSteps_of hs i o f (by simpa using ho) hf
  rw [Nat.zero_add] at h
  exact h u w n hn hn2 hC hkn K (fun a' v w' he h1 h2 h3 => he ▸ hK v w' h1 h2 h3)
 have h := calm_any S (by simpa using hlen) hB l.toArray.size (Array.replicate l.toArray.size false) (fun j => ((l[j - 0]?).bind (·.dst)).bind (a.tmps[·]?) |>.getD undef) w.drew Ys ?_ ?_ ?_ ?_
 ·rw [show l.toArray.toList = l from rfl, calmPut_self] at h
  exact h
 ·intro i o _ hl
  exfalso
  rw [Array.getD_eq_getD_getElem?] at hl
  simp [Array.getElem?_replicate] at hl
  split at hl <;> simp at hl
 ·exact Nat.le_trans (List.length_filter_le _ _) Ys
 ·rw [show calmAt chain (Array.replicate l.toArray.size false) = 0 from ?_]
  ·exact hC
  ·unfold calmAt
   cases chain with
   | nil => rfl
   | cons x l' =>
    rw [List.takeWhile_cons, if_neg]
    ·rfl
    ·simp only [Array.getD_eq_getD_getElem?, Array.getElem?_replicate]
     split <;> simp
 ·intro j f _ hl
  exfalso
  simp only [Array.getD_eq_getD_getElem?, Array.getElem?_replicate] at hl
  split at hl <;> simp at hl
end
end Go.Proofs.YtiinmhfolfgobaaGreatDoor
