/- The frame of the laws that read text: the cell of bytealg.MaxLen besides the tables. -/
import Derived.Test.YtelmcglckkjmfaaDoorFrameL
import Derived.HandedShaped
import Derived.Shelf.Vars
namespace Go.Proofs.YtelmcglckkjmfaaDoor
open Go.ChangeShapes Go.WideShapes Go.ChangeAt Go.RowKit Go.Deep Go.Lib
set_option linter.unusedSimpArgs false
set_option linter.unusedVariables false

/-- The library's variable MaxLen holds some number. -/
def MaxLenAt (w : World) : Prop := ∃ m, w.cell? ⟨2, 0, none⟩ = some (.int .i64 m)
theorem MaxLenAt.below {w w' : World} (h : MaxLenAt w) (hb : Below w.heap.size w w') : MaxLenAt w' := by
  obtain ⟨m, hm⟩ := h
  exact ⟨m, (hb.cell (World.block_lt_of_cell? w _ hm)).trans hm⟩
theorem maxLen_of {w : World} (h : w.ShapedOpen Tryd.prog) : MaxLenAt w :=
  Go.Proofs.cell_of_shapedOpen_int (g := 2) (t := 3) (zero := #[.int .i64 0]) (k := .i64) h (of_decide_eq_true (by kernel_rfl)) (by kernel_rfl) rfl (by kernel_rfl) (by kernel_rfl) (by kernel_rfl)
set_option maxRecDepth 100000 in
/-- FROM THE WALK TO THE ROW's STEP. -/
theorem lift_laidS (os : Os) (started : os.Started) (H : Type) (enc : TypeId × Value → H) (F : FuncId) (fn : Func) (s : ChangeSpec) (hF : Tryd.prog.funcs[F]? = some fn) (noInit : Tryd.checked.prog.inits.idxOf? F = none)
    (hres : fn.resultTypes = #[4]) (hread : ∀ t ∈ fn.params.toList, Tryd.prog.readableRec t = true ∧ t < Tryd.prog.types.size)
    (hvars : s.vars = []) (hs : ∀ ds : List (DataW H), ds.length = fn.params.size → s.fn H ds = { results := [.lit (.bool true)], args := ds, vars := [] })
    (witness : ∃ (w : World) (tape : Tape) (i : Input), w.os = os ∧ (w.forCall tape i).Shaped Tryd.checked.prog ∧ i.vars = [] ∧ Input.okWide Tryd.checked.prog (w.forCall tape i) .any w.heap.size F i ∧
      ((s.pre enc Tryd.checked.prog fn [] false (w.forCall tape i).memory i.args ∧ laidMet Tryd.prog laidL (w.forCall tape i).memory) ∧ sizedMet enc Tryd.checked.prog fn (OpenSpec.ofChange s) false (w.forCall tape i).memory i.args) ∧ Assume.holds {} Tryd.checked.prog (lone (Frame.enter Tryd.checked.prog F i.args .normal) [] (w.forCall tape i)))
    (walk : ∀ (W : World) (base : Nat) (args : Array Value) (ds : List (DataW H)) (p : List MemPlace), Pow10 W → MaxLenAt W → (∀ (j : Nat) t v, fn.params[j]? = some t → args[j]? = some v → Value.okWide Tryd.prog W .any base t v) →
      DataW.TrodAll enc Tryd.prog W 0 (fun _ => true) true fn.params.toList args.toList ds p → Walked F args W) :
    ReturnsInHanded {} Tryd.checked os F .any (fun w args => (s.pre enc Tryd.prog fn [] false w args ∧ laidMet Tryd.prog laidL w) ∧ sizedMet enc Tryd.prog fn (OpenSpec.ofChange s) false w args) (s.post enc Tryd.prog fn false true false false) := by
  refine returnsInHanded_of_calls (C := Tryd.checked) own_ started noInit witness ?_
  intro w tape i _ hsh _ hok hpre _
  obtain ⟨_, _, _, fn', hfn', _, _, _, _, hval0⟩ := hok
  have e : fn' = fn := Option.some.inj (hfn'.symm.trans hF)
  subst e
  obtain ⟨⟨⟨ds, gs, before, hw0, hc⟩, hL⟩, hz⟩ := hpre
  have hW := DataW.Whole.of_heap (w' := w.forCall tape i) (by rfl) hw0
  have hL' : laidMet Tryd.prog laidL (w.forCall tape i) := hL.of_heap (by rfl)
  have hval : ∀ (j : Nat) t v, fn'.params[j]? = some t → i.args[j]? = some v → Value.okWide Tryd.prog (w.forCall tape i) .any w.heap.size t v := hval0
  refine (show Calls Tryd.prog F i.args (w.forCall tape i) fun e W' => ∃ v, e = .returned v ∧ s.post enc Tryd.prog fn' false true false false (w.forCall tape i) i.args v W' from ?_).mono fun e W' ⟨v, he, hp⟩ => ?_
  rotate_left
  · subst he
    exact ChangeSpec.post_blind hp
  have hW' := hW
  obtain ⟨p, q, hA0, hV, rfl, hfz, hnd⟩ := hW
  have hA : DataW.TrodAll enc Tryd.prog (w.forCall tape i) 0 (fun _ => true) true fn'.params.toList i.args.toList ds p := hA0
  rw [hvars] at hV
  obtain ⟨rfl, rfl⟩ := trodVars_none hV
  have hlen : ds.length = fn'.params.size := by rw [(trodAll_size hA).2]; simp
  refine (walk (w.forCall tape i) w.heap.size i.args ds p (pow10_of hL') (maxLen_of hsh) hval hA).mono fun e W' ⟨he, hb⟩ => ?_
  subst he
  have e1 := hs ds hlen
  refine ⟨_, rfl, ds, [], _, [], p, [], hW', ?_, ?_, ?_, hb.frame _, fun h => by cases h⟩
  · rw [List.append_nil, e1, hres]
    exact trodAll_mk1 (shut_bool Tryd.underlying4 _)
  · rw [List.append_nil, e1]
    exact trodAll_below laidOut_ hb hread hA
  · rw [List.append_nil, e1, hvars]; rfl
section
variable {H : Type} {enc : TypeId × Value → H} {W : World} {base : Nat}
set_option maxRecDepth 100000 in
theorem come_string {v : Value} (h : Value.okWide Tryd.prog W .any base 9 v) : ∃ s, v = .string s := by
  simp only [Value.okWide, Tryd.underlying9, Cell.okWide, Cell.ok] at h
  cases v <;> simp_all
end

end Go.Proofs.YtelmcglckkjmfaaDoor
