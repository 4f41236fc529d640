/- A drawn region, each operation shown once; the state is told by which operations have come up. -/
import Derived.Test.YtiinmhfolfgobaaGreatDoorJ3
namespace Go.Proofs.YtiinmhfolfgobaaGreatDoor
open Go
section
variable {P : Program} {ops : Array Oper}
/-- Which operations have come up. -/
def updB (D : Nat → Bool) (i : Nat) : Nat → Bool := fun j => if j = i then true else D j
@[simp] theorem updB_self {D : Nat → Bool} {i : Nat} : updB D i i = true := by simp [updB]
structure DSpec (P : Program) (ops : Array Oper) (Q : Exit → Act → World → Prop) (C : (Nat → Bool) → (Nat → Value) → World → Prop) (R : World → World → Prop) (Fs : List (List Value → Value → World → Prop)) (Ds : List (List Nat)) (a : Act) : Prop where
  keep : ∀ (i : Nat) (f : List Value → Value → World → Prop), Fs[i]? = some f → ∀ d v w w', R w w' → f d v w → f d v w'
  step : ∀ (i : Nat) (o : Oper) (f : List Value → Value → World → Prop), ops[i]? = some o → Fs[i]? = some f → ∀ (u : Nat → Value) (w : World) (D : Nat → Bool), D i = false → (∀ j, calmReach ops ops.size j i = true → D j = false) → (∀ j, calmReach ops ops.size i j = true → D j = true) → C D u w → calmKnown Fs Ds u w (Ds.getD i []) →
    ∀ K : Act → World → Prop, (∀ v w', C (updB D i) (upd u i v) w' → R w w' → f ((Ds.getD i []).map u) v w' → K ((calmPut ops.toList u 0 a).put o.dst v) w') → wpOp P ops Q i K (calmPut ops.toList u 0 a) w
  last : ∀ (u : Nat → Value) (w : World) (D : Nat → Bool), (∀ i, i < ops.size → D i = true) → C D u w → calmFacts u w Fs Ds 0 → Q .normal (calmPut ops.toList u 0 a) w

variable {Q : Exit → Act → World → Prop} {C : (Nat → Bool) → (Nat → Value) → World → Prop} {R : World → World → Prop} {Fs : List (List Value → Value → World → Prop)} {Ds : List (List Nat)} {a : Act}

theorem calm_anyD (S : DSpec P ops Q C R Fs Ds a) (hlen : Fs.length = ops.size) (hB : calmB ops Ds [] = true) :
    ∀ (fuel : Nat) (listed : Array Bool) (u : Nat → Value) (w : World), listed.size = ops.size → Closed ops listed → (listed.toList.filter (! ·)).length ≤ fuel → C (fun j => listed.getD j false) u w →
      (∀ (j : Nat) (f : List Value → Value → World → Prop), Fs[j]? = some f → listed.getD j false = true → f ((Ds.getD j []).map u) (u j) w) → wpAny P .any ops Q fuel listed (calmPut ops.toList u 0 a) w := by
  simp only [calmB, Bool.and_eq_true, List.all_eq_true, List.mem_range] at hB
  obtain ⟨⟨⟨⟨hB1, hB2⟩, hB3⟩, hB4⟩, hB5⟩ := hB
  have back : ∀ i o, ops[i]? = some o → ∀ e ∈ o.after, Region.binds .any e = true → e.on < i := by
    intro i o ho e he hb
    have h := hB1 i (Array.getElem?_eq_some_iff.1 ho).1
    simp only [ho, Option.map_some, Option.getD_some, Array.all_eq_true] at h
    obtain ⟨n, hn, rfl⟩ := Array.getElem_of_mem he
    have h2 := h n hn
    simp only [hb, Bool.not_true, Bool.false_or, decide_eq_true_eq] at h2
    exact h2
  have dist : ∀ (p q : Nat) (o o' : Oper), ops.toList[p]? = some o → ops.toList[q]? = some o' → q < p → ∀ x, o.dst = some x → o'.dst ≠ some x := by
    intro p q o o' hp hq hqp x hx hx'
    rw [Array.getElem?_toList] at hp hq
    have h := hB2 p (Array.getElem?_eq_some_iff.1 hp).1 q hqp
    simp [hp, hq, hx, hx'] at h
  -- none ready: all are listed
  have all : ∀ listed : Array Bool, listed.size = ops.size → Region.ready .any ops listed = [] → ∀ i, i < ops.size → listed.getD i false = true := by
    intro listed hs hr i
    induction i using Nat.strongRecOn with
    | ind i ih =>
      intro hi
      rcases h : listed.getD i false with _ | _
      · exfalso
        have hmem : i ∈ Region.ready .any ops listed := by
          rw [mem_ready]
          refine ⟨?_, ops[i], by simp [hi], fun e he hb => ih e.on (back i _ (by simp [hi]) e he hb) (Nat.lt_trans (back i _ (by simp [hi]) e he hb) hi)⟩
          rw [Array.getD_eq_getD_getElem?, Array.getElem?_eq_getElem (by omega)] at h ⊢
          exact h
        rw [hr] at hmem; cases hmem
      · rfl
  have done : ∀ (listed : Array Bool) (u : Nat → Value) (w : World), listed.size = ops.size → C (fun j => listed.getD j false) u w → (∀ (j : Nat) (f : List Value → Value → World → Prop), Fs[j]? = some f → listed.getD j false = true → f ((Ds.getD j []).map u) (u j) w) → Region.ready .any ops listed = [] → Q .normal (calmPut ops.toList u 0 a) w := by
    intro listed u w hs hC hF hr
    have hall := all listed hs hr
    refine S.last u w _ hall hC (facts_of _ _ _ fun j f hf => ?_)
    have hj : j < ops.size := by rw [← hlen]; exact (List.getElem?_eq_some_iff.1 hf).1
    simpa using hF j f hf (hall j hj)
  intro fuel
  induction fuel with
  | zero =>
    intro listed u w hs hcl hfu hC hF
    have hr : Region.ready .any ops listed = [] := by
      cases hr : Region.ready .any ops listed with
      | nil => rfl
      | cons i l =>
        exfalso
        have hi : i ∈ Region.ready .any ops listed := by rw [hr]; simp
        obtain ⟨h0, o, ho, _⟩ := mem_ready.1 hi
        have hlt : i < listed.size := by rw [hs]; exact (Array.getElem?_eq_some_iff.1 ho).1
        rw [Array.getD_eq_getD_getElem?, Array.getElem?_eq_getElem hlt] at h0
        have : listed[i] ∈ listed.toList.filter (! ·) := by
          rw [List.mem_filter]; exact ⟨by simp, by simpa using h0⟩
        have h1 := List.length_pos_of_mem this
        omega
    exact ⟨hr, done listed u w hs hC hF hr⟩
  | succ fuel ih =>
    intro listed u w hs hcl hfu hC hF
    refine ⟨fun hr => done listed u w hs hC hF hr, fun i hi => ?_⟩
    obtain ⟨h0, o, ho, hall⟩ := mem_ready.1 hi
    have hlt : i < ops.size := (Array.getElem?_eq_some_iff.1 ho).1
    have hf : Fs[i]? = some (Fs[i]'(by omega)) := List.getElem?_eq_getElem _
    have h0' : listed.getD i false = false := by
      rw [Array.getD_eq_getD_getElem?, Array.getElem?_eq_getElem (by omega)] at h0 ⊢; exact h0
    have kn : ∀ j, calmReach ops ops.size i j = true → listed.getD j false = true := fun j hj => reach_listed hcl _ i j o ho hall hj
    have un : ∀ j, calmReach ops ops.size j i = true → listed.getD j false = false := by
      intro j hj
      rcases h : listed.getD j false with _ | _
      · rfl
      · exfalso
        cases hoj : ops[j]? with
        | none => cases hsz : ops.size with
          | zero => omega
          | succ s => rw [hsz] at hj; simp [calmReach, hoj] at hj
        | some oj =>
          have := reach_listed hcl _ j i oj hoj (fun e he hb => hcl j oj hoj h e he hb) hj
          rw [h0'] at this; cases this
    refine S.step i o _ ho hf u w (fun j => listed.getD j false) h0' un kn hC (known_of _ fun j hj f hjf => ?_) _ (fun v w' hC' hR hv => ?_)
    · refine hF j f hjf (kn j ?_)
      have := hB3 i hlt
      exact this j hj
    · have e : (calmPut ops.toList u 0 a).put o.dst v = calmPut ops.toList (upd u i v) 0 a := by
        have := calmPut_upd v ops.toList u 0 i a (by simpa using hlt) dist
        simpa [ho] using this
      rw [e]
      refine ih _ _ _ (by simpa using hs) ?_ ?_ ?_ ?_
      · intro j oj hoj hlj e2 he2 hb2
        by_cases hji : j = i
        · subst hji; rw [ho] at hoj; cases hoj
          exact getD_set_true (hall e2 he2 hb2)
        · rw [getD_set_ne false (Ne.symm hji)] at hlj
          exact getD_set_true (hcl j oj hoj hlj e2 he2 hb2)
      · have h1 : ((listed.setIfInBounds i true).toList.filter (! ·)).length < (listed.toList.filter (! ·)).length := by
          have hil : i < listed.toList.length := by simp; omega
          have hx : listed.toList[i] = false := by
            rw [Array.getD_eq_getD_getElem?, Array.getElem?_eq_getElem (by omega)] at h0
            simpa using h0
          have e1 : listed.toList = listed.toList.take i ++ false :: listed.toList.drop (i + 1) := by
            rw [← hx, List.getElem_cons_drop, List.take_append_drop]
          have e2 : (listed.setIfInBounds i true).toList = listed.toList.take i ++ true :: listed.toList.drop (i + 1) := by
            rw [Array.toList_setIfInBounds, List.set_eq_take_append_cons_drop, if_pos hil]
          rw [e2]
          conv => rhs; rw [e1]
          simp
        omega
      · have e2 : (fun j => (listed.setIfInBounds i true).getD j false) = updB (fun j => listed.getD j false) i := by
          funext j
          unfold updB
          by_cases hj : j = i
          · subst hj; rw [if_pos rfl]; simp [Array.getD_eq_getD_getElem?, hs, hlt]
          · rw [if_neg hj]; exact getD_set_ne false (Ne.symm hj)
        rw [e2]; exact hC'
      · intro j f hjf hlj
        have same : (Ds.getD j []).map (upd u i v) = (Ds.getD j []).map u := by
          refine List.map_congr_left fun k hk => ?_
          have hj : j < ops.size := by rw [← hlen]; exact (List.getElem?_eq_some_iff.1 hjf).1
          have hr := hB3 j hj k hk
          have hki : k ≠ i := by
            intro e; subst e
            by_cases hji : j = k
            · subst hji
              have := un j hr
              have h2 := kn j hr
              rw [h0'] at h2; cases h2
            · rw [getD_set_ne false (Ne.symm hji)] at hlj
              have := un j hr
              rw [hlj] at this; cases this
          simp [upd, hki]
        rw [same]
        by_cases hji : j = i
        · subst hji
          rw [hf] at hjf; cases hjf
          simpa [upd] using hv
        · rw [getD_set_ne false (Ne.symm hji)] at hlj
          simp only [upd, hji, if_false]
          exact S.keep j f hjf _ _ _ _ hR (hF j f hjf hlj)

/-- One operation's own goal. -/
def DStep (P : Program) (ops : Array Oper) (Q : Exit → Act → World → Prop) (C : (Nat → Bool) → (Nat → Value) → World → Prop) (R : World → World → Prop) (Fs : List (List Value → Value → World → Prop)) (Ds : List (List Nat)) (A : (Nat → Value) → Act) (o : Oper) (f : List Value → Value → World → Prop) (d : List Nat) (i : Nat) : Prop :=
  ∀ (u : Nat → Value) (w : World) (D : Nat → Bool), D i = false → (∀ j, calmReach ops ops.size j i = true → D j = false) → (∀ j, calmReach ops ops.size i j = true → D j = true) → C D u w → calmKnown Fs Ds u w d → ∀ K : Act → World → Prop,
    (∀ a' v w', a' = (A u).put o.dst v → C (updB D i) (upd u i v) w' → R w w' → f (d.map u) v w' → K a' w') →
    if Region.wanted o (yielded ops (A u).tmps) = true then Oper.wp P o (A u) w K Q else K ((A u).put o.dst undef) w
def DSteps (P : Program) (ops : Array Oper) (Q : Exit → Act → World → Prop) (C : (Nat → Bool) → (Nat → Value) → World → Prop) (R : World → World → Prop) (Fs : List (List Value → Value → World → Prop)) (Ds : List (List Nat)) (A : (Nat → Value) → Act) : List Oper → List (List Value → Value → World → Prop) → List (List Nat) → Nat → Prop
  | [], _, _, _ => True
  | o :: l, f :: fs, d :: ds, i => DStep P ops Q C R Fs Ds A o f d i ∧ DSteps P ops Q C R Fs Ds A l fs ds (i + 1)
  | _ :: _, _, _, _ => False
variable {A : (Nat → Value) → Act}
theorem dSteps_nil {fs : List (List Value → Value → World → Prop)} {ds : List (List Nat)} {i : Nat} : DSteps P ops Q C R Fs Ds A [] fs ds i := by unfold DSteps; trivial
theorem dSteps_cons {o : Oper} {l : List Oper} {f : List Value → Value → World → Prop} {fs : List (List Value → Value → World → Prop)} {d : List Nat} {ds : List (List Nat)} {i : Nat}
    (h : DStep P ops Q C R Fs Ds A o f d i) (h' : DSteps P ops Q C R Fs Ds A l fs ds (i + 1)) : DSteps P ops Q C R Fs Ds A (o :: l) (f :: fs) (d :: ds) i := ⟨h, h'⟩
theorem dSteps_of : ∀ {l : List Oper} {fs : List (List Value → Value → World → Prop)} {ds : List (List Nat)} {i : Nat}, DSteps P ops Q C R Fs Ds A l fs ds i → ∀ (j : Nat) (o : Oper) (f : List Value → Value → World → Prop), l[j]? = some o → fs[j]? = some f →
    DStep P ops Q C R Fs Ds A o f (ds.getD j []) (i + j)
  | [], _, _, _, _, _, _, _, h, _ => by simp at h
  | o :: l, [], ds, i, h, _, _, _, _, _ => by unfold DSteps at h; exact h.elim
  | o :: l, f :: fs, [], i, h, _, _, _, _, _ => by unfold DSteps at h; exact h.elim
  | o :: l, f :: fs, d :: ds, i, h, 0, o', f', h1, h2 => by
    simp at h1 h2; subst h1; subst h2
    exact h.1
  | o :: l, f :: fs, d :: ds, i, h, j + 1, o', f', h1, h2 => by
    have := dSteps_of h.2 j o' f' (by simpa using h1) (by simpa using h2)
    rw [show i + 1 + j = i + (j + 1) by omega] at this
    simpa [List.getD] using this
/-- **A region that draws its order, each operation shown once; the state is told by what has come up.** -/
theorem wp_region_calmD {id : Nat} {l : List Oper} {Q : Exit → Act → World → Prop} {a : Act} {w : World} (hm : P.follows .mixedOrders = true)
    (C : (Nat → Bool) → (Nat → Value) → World → Prop) (R : World → World → Prop) (Fs : List (List Value → Value → World → Prop)) (Ds : List (List Nat))
    (hlen : Fs.length = l.length) (hB : calmB l.toArray Ds [] = true) (hA : ∀ u, calmPut l u 0 a = A u) (hC : C (fun _ => false) (fun j => ((l[j - 0]?).bind (·.dst)).bind (a.tmps[·]?) |>.getD undef) w.drew) (hk : CalmKeep R Fs)
    (hs : DSteps P l.toArray Q C R Fs Ds A l Fs Ds 0) (hl : ∀ (u : Nat → Value) (w' : World) (D : Nat → Bool), (∀ i, i < l.length → D i = true) → C D u w' → calmFacts u w' Fs Ds 0 → Q .normal (A u) w') :
    (Code.region id l.toArray true).wp P Q a w := by
  refine wp_region_any hm ?_
  have S : DSpec P l.toArray Q C R Fs Ds a := by
    refine ⟨calmKeep_of hk, fun i o f ho hf u w D h0 hn hn2 hC hkn K hK => ?_, fun u w' D h0 h1 h2 => by rw [show l.toArray.toList = l from rfl, hA]; exact hl u w' D (by simpa using h0) h1 h2⟩
    refine calm_wanted ho ?_
    rw [show l.toArray.toList = l from rfl, hA] at *
    have h := dSteps_of hs i o f (by simpa using ho) hf
    rw [Nat.zero_add] at h
    exact h u w D h0 hn hn2 hC hkn K (fun a' v w' he h1 h2 h3 => he ▸ hK v w' h1 h2 h3)
  have h := calm_anyD S (by simpa using hlen) hB l.toArray.size (Array.replicate l.toArray.size false) (fun j => ((l[j - 0]?).bind (·.dst)).bind (a.tmps[·]?) |>.getD undef) w.drew (by simp) ?_ ?_ ?_ ?_
  · rw [show l.toArray.toList = l from rfl, calmPut_self] at h
    exact h
  · intro i o _ hl
    exfalso
    rw [Array.getD_eq_getD_getElem?] at hl
    simp [Array.getElem?_replicate] at hl
    split at hl <;> simp at hl
  · exact Nat.le_trans (List.length_filter_le _ _) (by simp)
  · have e2 : (fun j => (Array.replicate l.toArray.size false).getD j false) = fun _ => false := by
      funext j
      simp only [Array.getD_eq_getD_getElem?, Array.getElem?_replicate]
      split <;> rfl
    rw [e2]; exact hC
  · intro j f _ hl
    exfalso
    simp only [Array.getD_eq_getD_getElem?, Array.getElem?_replicate] at hl
    split at hl <;> simp at hl
end
end Go.Proofs.YtiinmhfolfgobaaGreatDoor
