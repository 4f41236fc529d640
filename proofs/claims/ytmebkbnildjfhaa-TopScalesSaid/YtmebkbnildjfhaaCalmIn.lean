/- A region that draws its order inside a round of a range over a function: each operation shown once. -/
import Derived.Test.YtmebkbnildjfhaaCalm
import Derived.OrdersIn
import Derived.OwnWalkIn
import Derived.TacticsIn
import Derived.RangeFuncCalls
namespace Go.Proofs.Ytmebkbnildjfhaa
open Go
section
variable {P : Program} {ops : Array Oper} {Q : Exit → Act → World → Prop} {A : (Nat → Value) → Act}
/-- In a round, at the wide fence, an operation that is no defer goes as everywhere. -/
theorem opIn_of_wp {l n : Nat} {o : Oper} {a : Act} {w : World} {K : Act → World → Prop} (hd : ∀ c, o.op ≠ .defer c) (h : o.wp P a w K Q) : o.wpIn (Fence.wide.inRound l) n P a w K Q := by
  refine ⟨fun _ _ => trivial, ?_⟩
  show o.uponIn _ n P a K Q ((o.semAt (some l) a.eval).run P w)
  rw [Oper.semAt_some l _ _ hd]
  unfold Oper.wp at h
  generalize (execOp a.eval o).run P w = r at *
  cases r with
  | ok x w' =>
    cases x with
    | value v => exact h
    | skip => exact h
    | defer d => exact h
    | enter f args => exact ⟨fun hh => (by cases hh), CallsIn.inRound l (callsIn_wide.2 (Calls.mono h (fun e w'' he => by cases e <;> exact he)))⟩
    | row r args => exact ⟨fun hh => (by cases hh), fun c cs _ => by obtain ⟨v, w', r, s⟩ := h c cs; exact ⟨v, w', r, stepsIn_wide.2 s⟩⟩
    | _ => exact h.elim
  | halt x w' => cases x <;> exact h
/-- An operation's own goal, with no way out of the model's bounds. -/
def wpOp1 (P : Program) (ops : Array Oper) (Q : Exit → Act → World → Prop) (i : Nat) (K : Act → World → Prop) (a : Act) (w : World) : Prop :=
  match ops[i]? with
  | none => K a w
  | some o => if Region.wanted o (yielded ops a.tmps) then o.wp P a w K Q else K (a.put o.dst undef) w
def wpAny1 (P : Program) (md : Region.Mode) (ops : Array Oper) (Q : Exit → Act → World → Prop) : Nat → Array Bool → Act → World → Prop
  | 0, listed, a, w => Region.ready md ops listed = [] ∧ Q .normal a w
  | fuel + 1, listed, a, w => (Region.ready md ops listed = [] → Q .normal a w) ∧ ∀ i ∈ Region.ready md ops listed, wpOp1 P ops Q i (wpAny1 P md ops Q fuel (listed.setIfInBounds i true)) a w
theorem anyIn_of_any {l n : Nat} {md : Region.Mode} (hd : ∀ o ∈ ops.toList, ∀ c, o.op ≠ .defer c) : ∀ (fuel : Nat) (listed : Array Bool) (a : Act) (w : World), wpAny1 P md ops Q fuel listed a w → wpAnyIn (Fence.wide.inRound l) n P md ops Q fuel listed a w
  | 0, _, _, _, h => h
  | fuel + 1, listed, a, w, h => by
    refine ⟨h.1, fun i hi => ?_⟩
    have h2 := h.2 i hi
    unfold wpOp1 at h2
    unfold wpOpIn
    cases ho : ops[i]? with
    | none => simp only [ho] at h2 ⊢; exact anyIn_of_any hd fuel _ _ _ h2
    | some o =>
      simp only [ho] at h2 ⊢
      have hm : o ∈ ops.toList := by
        obtain ⟨hlt, he⟩ := Array.getElem?_eq_some_iff.1 ho
        rw [← he]; simp
      split
      · rename_i hw
        rw [if_pos hw] at h2
        exact Oper.wpIn_mono (fun a w h => anyIn_of_any hd fuel _ a w h) (opIn_of_wp (hd o hm) h2)
      · rename_i hw
        rw [if_neg hw] at h2
        exact ⟨fun _ _ => trivial, anyIn_of_any hd fuel _ _ _ h2⟩
def noDefer : List Oper → Bool := fun l => l.all fun o => match o.op with | .defer _ => false | _ => true
theorem noDefer_of {l : List Oper} (h : noDefer l = true) : ∀ o ∈ l.toArray.toList, ∀ c, o.op ≠ .defer c := by
  intro o ho c hc
  have := List.all_eq_true.1 h o (by simpa using ho)
  rw [hc] at this; cases this
end
section
variable {P : Program} {ops : Array Oper}
structure CalmSpec1 (P : Program) (ops : Array Oper) (Q : Exit → Act → World → Prop) (C : Nat → List Value → World → Prop) (R : World → World → Prop) (Fs : List (List Value → Value → World → Prop)) (Ds : List (List Nat)) (chain sel : List Nat) (a : Act) : Prop where
  keep : ∀ (i : Nat) (f : List Value → Value → World → Prop), Fs[i]? = some f → ∀ d v w w', R w w' → f d v w → f d v w'
  step : ∀ (i : Nat) (o : Oper) (f : List Value → Value → World → Prop), ops[i]? = some o → Fs[i]? = some f → ∀ (u : Nat → Value) (w : World) (n : Nat), (∀ m, chain[m]? = some i → n = m) → (∀ m j, chain[m]? = some j → calmReach ops ops.size j i = true → n ≤ m) → C n (sel.map u) w → calmKnown Fs Ds u w (Ds.getD i []) →
    ∀ K : Act → World → Prop, (∀ v w', C (if chain.contains i then n + 1 else n) (sel.map (upd u i v)) w' → R w w' → f ((Ds.getD i []).map u) v w' → K ((calmPut ops.toList u 0 a).put o.dst v) w') → wpOp1 P ops Q i K (calmPut ops.toList u 0 a) w
  last : ∀ (u : Nat → Value) (w : World), C chain.length (sel.map u) w → calmFacts u w Fs Ds 0 → Q .normal (calmPut ops.toList u 0 a) w


variable {Q : Exit → Act → World → Prop} {C : Nat → List Value → World → Prop} {R : World → World → Prop} {Fs : List (List Value → Value → World → Prop)} {Ds : List (List Nat)} {chain sel : List Nat} {a : Act}

theorem calm_any1 (S : CalmSpec1 P ops Q C R Fs Ds chain sel a) (hlen : Fs.length = ops.size) (hB : calmB ops Ds chain = true) :
    ∀ (fuel : Nat) (listed : Array Bool) (u : Nat → Value) (w : World), listed.size = ops.size → Closed ops listed → (listed.toList.filter (! ·)).length ≤ fuel → C (calmAt chain listed) (sel.map u) w →
      (∀ (j : Nat) (f : List Value → Value → World → Prop), Fs[j]? = some f → listed.getD j false = true → f ((Ds.getD j []).map u) (u j) w) → wpAny1 P .any ops Q fuel listed (calmPut ops.toList u 0 a) w := by
  simp only [calmB, Bool.and_eq_true, List.all_eq_true, List.mem_range] at hB
  obtain ⟨⟨⟨⟨hB1, hB2⟩, hB3⟩, hB4⟩, hB5⟩ := hB
  have back : ∀ i o, ops[i]? = some o → ∀ e ∈ o.after, Region.binds .any e = true → e.on < i := by
    intro i o ho e he hb
    have h := hB1 i (Array.getElem?_eq_some_iff.1 ho).1
    simp only [ho, Option.map_some, Option.getD_some, Array.all_eq_true] at h
    obtain ⟨n, hn, rfl⟩ := Array.getElem_of_mem he
    have h2 := h n hn
    simp only [hb, Bool.not_true, Bool.false_or, decide_eq_true_eq] at h2
    exact h2
  have dist : ∀ (p q : Nat) (o o' : Oper), ops.toList[p]? = some o → ops.toList[q]? = some o' → q < p → ∀ x, o.dst = some x → o'.dst ≠ some x := by
    intro p q o o' hp hq hqp x hx hx'
    rw [Array.getElem?_toList] at hp hq
    have h := hB2 p (Array.getElem?_eq_some_iff.1 hp).1 q hqp
    simp [hp, hq, hx, hx'] at h
  -- none ready: all are listed
  have all : ∀ listed : Array Bool, listed.size = ops.size → Region.ready .any ops listed = [] → ∀ i, i < ops.size → listed.getD i false = true := by
    intro listed hs hr i
    induction i using Nat.strongRecOn with
    | ind i ih =>
      intro hi
      rcases h : listed.getD i false with _ | _
      · exfalso
        have hmem : i ∈ Region.ready .any ops listed := by
          rw [mem_ready]
          refine ⟨?_, ops[i], by simp [hi], fun e he hb => ih e.on (back i _ (by simp [hi]) e he hb) (Nat.lt_trans (back i _ (by simp [hi]) e he hb) hi)⟩
          rw [Array.getD_eq_getD_getElem?, Array.getElem?_eq_getElem (by omega)] at h ⊢
          exact h
        rw [hr] at hmem; cases hmem
      · rfl
  have done : ∀ (listed : Array Bool) (u : Nat → Value) (w : World), listed.size = ops.size → C (calmAt chain listed) (sel.map u) w → (∀ (j : Nat) (f : List Value → Value → World → Prop), Fs[j]? = some f → listed.getD j false = true → f ((Ds.getD j []).map u) (u j) w) → Region.ready .any ops listed = [] → Q .normal (calmPut ops.toList u 0 a) w := by
    intro listed u w hs hC hF hr
    have hall := all listed hs hr
    refine S.last u w ?_ (facts_of _ _ _ fun j f hf => ?_)
    · rwa [show calmAt chain listed = chain.length from by
        refine takeWhile_len _ _ (Nat.le_refl _) (fun m' x _ hx => hall x ?_) (fun x hx => by simp at hx)
        exact of_decide_eq_true (hB5 x (List.mem_of_getElem? hx))] at hC
    · have hj : j < ops.size := by rw [← hlen]; exact (List.getElem?_eq_some_iff.1 hf).1
      simpa using hF j f hf (hall j hj)
  intro fuel
  induction fuel with
  | zero =>
    intro listed u w hs hcl hfu hC hF
    have hr : Region.ready .any ops listed = [] := by
      cases hr : Region.ready .any ops listed with
      | nil => rfl
      | cons i l =>
        exfalso
        have hi : i ∈ Region.ready .any ops listed := by rw [hr]; simp
        obtain ⟨h0, o, ho, _⟩ := mem_ready.1 hi
        have hlt : i < listed.size := by rw [hs]; exact (Array.getElem?_eq_some_iff.1 ho).1
        rw [Array.getD_eq_getD_getElem?, Array.getElem?_eq_getElem hlt] at h0
        have : listed[i] ∈ listed.toList.filter (! ·) := by
          rw [List.mem_filter]; exact ⟨by simp, by simpa using h0⟩
        have h1 := List.length_pos_of_mem this
        omega
    exact ⟨hr, done listed u w hs hC hF hr⟩
  | succ fuel ih =>
    intro listed u w hs hcl hfu hC hF
    refine ⟨fun hr => done listed u w hs hC hF hr, fun i hi => ?_⟩
    obtain ⟨h0, o, ho, hall⟩ := mem_ready.1 hi
    have hlt : i < ops.size := (Array.getElem?_eq_some_iff.1 ho).1
    have hf : Fs[i]? = some (Fs[i]'(by omega)) := List.getElem?_eq_getElem _
    have h0' : listed.getD i false = false := by
      rw [Array.getD_eq_getD_getElem?, Array.getElem?_eq_getElem (by omega)] at h0 ⊢; exact h0
    have kn : ∀ j, calmReach ops ops.size i j = true → listed.getD j false = true := fun j hj => reach_listed hcl _ i j o ho hall hj
    have un : ∀ j, calmReach ops ops.size j i = true → listed.getD j false = false := by
      intro j hj
      rcases h : listed.getD j false with _ | _
      · rfl
      · exfalso
        cases hoj : ops[j]? with
        | none => cases hsz : ops.size with
          | zero => omega
          | succ s => rw [hsz] at hj; simp [calmReach, hoj] at hj
        | some oj =>
          have := reach_listed hcl _ j i oj hoj (fun e he hb => hcl j oj hoj h e he hb) hj
          rw [h0'] at this; cases this
    have pos : ∀ m, chain[m]? = some i → calmAt chain listed = m ∧ calmAt chain (listed.setIfInBounds i true) = m + 1 := by
      intro m hm
      have hml : m < chain.length := (List.getElem?_eq_some_iff.1 hm).1
      have pre : ∀ m' x, m' < m → chain[m']? = some x → listed.getD x false = true := by
        intro m' x h1 h2
        refine kn x ?_
        have := hB4 m hml m' h1
        simpa [List.getD, hm, h2] using this
      constructor
      · exact takeWhile_len _ _ (by omega) pre (fun x hx => by rw [hm] at hx; cases hx; exact h0')
      · refine takeWhile_len _ _ (by omega) (fun m' x h1 h2 => ?_) (fun x hx => ?_)
        · by_cases he : m' = m
          · subst he; rw [hm] at h2; cases h2
            simp [Array.getD_eq_getD_getElem?, hs, hlt]
          · exact getD_set_true (pre m' x (by omega) h2)
        · have h1 : calmReach ops ops.size x i = true := by
            have := hB4 (m + 1) (List.getElem?_eq_some_iff.1 hx).1 m (by omega)
            simpa [List.getD, hm, hx] using this
          have hne : i ≠ x := by
            intro e; subst e
            have hh : ∀ fuel j k, calmReach ops fuel j k = true → k < j := by
              intro fuel
              induction fuel with
              | zero => intro j k h; simp [calmReach] at h
              | succ fuel ih =>
                intro j k h
                simp only [calmReach] at h
                split at h
                · cases h
                · rename_i oj hoj
                  simp only [Array.any_eq_true, Bool.and_eq_true, Bool.or_eq_true, beq_iff_eq] at h
                  obtain ⟨n, hn, hb, h⟩ := h
                  have hb2 := back j oj hoj _ (Array.getElem_mem hn) hb
                  rcases h with h | h
                  · omega
                  · have := ih _ _ h; omega
            have := hh _ _ _ h1
            omega
          show (listed.setIfInBounds i true).getD x false = false
          rw [getD_set_ne false hne]
          exact un x h1
    refine S.step i o _ ho hf u w (calmAt chain listed) (fun m hm => (pos m hm).1) (fun m j hm hr => takeWhile_le _ m j hm (un j hr)) hC (known_of _ fun j hj f hjf => ?_) _ (fun v w' hC' hR hv => ?_)
    · refine hF j f hjf (kn j ?_)
      have := hB3 i hlt
      exact this j hj
    · have e : (calmPut ops.toList u 0 a).put o.dst v = calmPut ops.toList (upd u i v) 0 a := by
        have := calmPut_upd v ops.toList u 0 i a (by simpa using hlt) dist
        simpa [ho] using this
      rw [e]
      refine ih _ _ _ (by simpa using hs) ?_ ?_ ?_ ?_
      · intro j oj hoj hlj e2 he2 hb2
        by_cases hji : j = i
        · subst hji; rw [ho] at hoj; cases hoj
          exact getD_set_true (hall e2 he2 hb2)
        · rw [getD_set_ne false (Ne.symm hji)] at hlj
          exact getD_set_true (hcl j oj hoj hlj e2 he2 hb2)
      · have h1 : ((listed.setIfInBounds i true).toList.filter (! ·)).length < (listed.toList.filter (! ·)).length := by
          have hil : i < listed.toList.length := by simp; omega
          have hx : listed.toList[i] = false := by
            rw [Array.getD_eq_getD_getElem?, Array.getElem?_eq_getElem (by omega)] at h0
            simpa using h0
          have e1 : listed.toList = listed.toList.take i ++ false :: listed.toList.drop (i + 1) := by
            rw [← hx, List.getElem_cons_drop, List.take_append_drop]
          have e2 : (listed.setIfInBounds i true).toList = listed.toList.take i ++ true :: listed.toList.drop (i + 1) := by
            rw [Array.toList_setIfInBounds, List.set_eq_take_append_cons_drop, if_pos hil]
          rw [e2]
          conv => rhs; rw [e1]
          simp
        omega
      · by_cases hin : i ∈ chain
        · obtain ⟨m, hm, he⟩ := List.getElem_of_mem hin
          have hm' : chain[m]? = some i := by rw [List.getElem?_eq_getElem hm, he]
          rw [(pos m hm').2]
          rw [(pos m hm').1, if_pos (by simpa using hin)] at hC'
          exact hC'
        · rw [if_neg (by simpa using hin)] at hC'
          rwa [show calmAt chain (listed.setIfInBounds i true) = calmAt chain listed from by
            unfold calmAt
            rw [takeWhile_congr' chain fun x hx => ?_]
            exact getD_set_ne false (fun e => hin (e ▸ hx))]
      · intro j f hjf hlj
        have same : (Ds.getD j []).map (upd u i v) = (Ds.getD j []).map u := by
          refine List.map_congr_left fun k hk => ?_
          have hj : j < ops.size := by rw [← hlen]; exact (List.getElem?_eq_some_iff.1 hjf).1
          have hr := hB3 j hj k hk
          have hki : k ≠ i := by
            intro e; subst e
            by_cases hji : j = k
            · subst hji
              have := un j hr
              have h2 := kn j hr
              rw [h0'] at h2; cases h2
            · rw [getD_set_ne false (Ne.symm hji)] at hlj
              have := un j hr
              rw [hlj] at this; cases this
          simp [upd, hki]
        rw [same]
        by_cases hji : j = i
        · subst hji
          rw [hf] at hjf; cases hjf
          simpa [upd] using hv
        · rw [getD_set_ne false (Ne.symm hji)] at hlj
          simp only [upd, hji, if_false]
          exact S.keep j f hjf _ _ _ _ hR (hF j f hjf hlj)


theorem calm_wanted1 {o : Oper} {i : Nat} {K : Act → World → Prop} {b : Act} {w : World} (ho : ops[i]? = some o)
    (h : if Region.wanted o (yielded ops b.tmps) = true then Oper.wp P o b w K Q else K (b.put o.dst undef) w) : wpOp1 P ops Q i K b w := by
  unfold wpOp1
  simp only [ho]
  exact h
end
section
variable {P : Program} {ops : Array Oper} {Q : Exit → Act → World → Prop} {A : (Nat → Value) → Act}
/-- **A region that draws its order, in a round, each operation shown once.** -/
theorem wpIn_region_calm {rd nn : Nat} {id : Nat} {l : List Oper} {a : Act} {w : World} (hm : P.follows .mixedOrders = true) (hnd : noDefer l = true)
    (C : Nat → List Value → World → Prop) (R : World → World → Prop) (Fs : List (List Value → Value → World → Prop)) (Ds : List (List Nat)) (chain sel : List Nat)
    (hlen : Fs.length = l.length) (hB : calmB l.toArray Ds chain = true) (hA : ∀ u, calmPut l u 0 a = A u) (hC : ∀ us, C 0 us w.drew) (hk : CalmKeep R Fs)
    (hs : CalmSteps P l.toArray Q C R Fs Ds chain sel A l Fs Ds 0) (hl : ∀ (u : Nat → Value) (w' : World), C chain.length (sel.map u) w' → calmFacts u w' Fs Ds 0 → Q .normal (A u) w') :
    (Code.region id l.toArray true).wpIn (Fence.wide.inRound rd) nn P Q a w := by
  refine wpIn_region_any hm (anyIn_of_any (noDefer_of hnd) _ _ _ _ ?_)
  have S : CalmSpec1 P l.toArray Q C R Fs Ds chain sel a := by
    refine ⟨calmKeep_of hk, fun i o f ho hf u w n hn hn2 hC hkn K hK => ?_, fun u w' h1 h2 => by rw [show l.toArray.toList = l from rfl, hA]; exact hl u w' h1 h2⟩
    refine calm_wanted1 ho ?_
    rw [show l.toArray.toList = l from rfl, hA] at *
    have h := calmSteps_of hs i o f (by simpa using ho) hf
    rw [Nat.zero_add] at h
    exact h u w n hn hn2 hC hkn K (fun a' v w' he h1 h2 h3 => he ▸ hK v w' h1 h2 h3)
  have h := calm_any1 S (by simpa using hlen) hB l.toArray.size (Array.replicate l.toArray.size false) (fun j => ((l[j - 0]?).bind (·.dst)).bind (a.tmps[·]?) |>.getD undef) w.drew (by simp) ?_ ?_ ?_ ?_
  · rw [show l.toArray.toList = l from rfl, calmPut_self] at h
    exact h
  · intro i o _ hl
    exfalso
    rw [Array.getD_eq_getD_getElem?] at hl
    simp [Array.getElem?_replicate] at hl
    split at hl <;> simp at hl
  · exact Nat.le_trans (List.length_filter_le _ _) (by simp)
  · rw [show calmAt chain (Array.replicate l.toArray.size false) = 0 from ?_]
    · exact hC _
    · unfold calmAt
      cases chain with
      | nil => rfl
      | cons x l' =>
        rw [List.takeWhile_cons, if_neg]
        · rfl
        · simp only [Array.getD_eq_getD_getElem?, Array.getElem?_replicate]
          split <;> simp
  · intro j f _ hl
    exfalso
    simp only [Array.getD_eq_getD_getElem?, Array.getElem?_replicate] at hl
    split at hl <;> simp at hl
end
end Go.Proofs.Ytmebkbnildjfhaa
