/- Lemmas. -/
import Derived.HandedShaped
import Derived.Shelf.Vars
import GoSem.PinnedTables
import Derived.Test.YtiinmhfolfgobaaGreatDoorFrameL
set_option linter.unusedVariables false
set_option linter.unusedSimpArgs false
namespace Go.Proofs.YtiinmhfolfgobaaGreatDoor
open Go.ChangeShapes Go.WideShapes Go.ChangeAt Go.RowKit Go.Deep Go.Lib
def MaxLenAt (w : World) : Prop := ∃ m, w.cell? ⟨2, 0, none⟩ = some (.int .i64 m)
theorem MaxLenAt.below {w w' : World} (h : MaxLenAt w) (hb : Below w.heap.size w w') : MaxLenAt w' := by
 obtain ⟨m, hm⟩ := h
 exact ⟨m, (hb.cell (World.block_lt_of_cell? w _ hm)).trans hm⟩
theorem maxLen_of {w : World} (h : w.ShapedOpen Tryz.prog) : MaxLenAt w :=
 Go.Proofs.cell_of_shapedOpen_int (g := 2) (t := 3) (zero := #[.int .i64 0]) (k := .i64) h (of_decide_eq_true Yr) Yr rfl Yr Yr Yr
section
variable {H : Type} {enc : TypeId × Value → H} {W : World} {base : Nat}
end
end Go.Proofs.YtiinmhfolfgobaaGreatDoor
namespace Go.Proofs.YtiinmhfolfgobaaGreatDoor
open Go.ChangeShapes Go.WideShapes Go.ChangeAt Go.RowKit Go.Deep Go.Lib
set_option maxRecDepth 100000
def laidW : List (String × DataW Unit) := [("math/bits.deBruijn32tab", Rows.laid_math_bits_deBruijn32tab), ("math/bits.deBruijn64tab", Rows.laid_math_bits_deBruijn64tab), ("internal/strconv.uint64pow10", Rows.laid_internal_strconv_uint64pow10), ("unicode/utf8.acceptRanges", Rows.laid_unicode_utf8_acceptRanges), ("strconv.ErrRange", Rows.laid_strconv_ErrRange), ("strconv.ErrSyntax", Rows.laid_strconv_ErrSyntax), ("unicode/utf8.first", Rows.laid_unicode_utf8_first)]
theorem pow10_ofW {W : World} (h : laidMet Tryz.prog laidW W) : Pow10 W := by
  obtain ⟨ps, ⟨_, _, _, _, _, _, _, _, _, _, ⟨_, _, _, _, _, _, _, _, _, _, ⟨g', t', cs, fuel, p, q, hg', ht', hvar, hd, _, _⟩, _⟩, _⟩, _⟩ := h
  obtain rfl := Option.some.inj (pow10_global.symm.trans hg')
  have hty : (Tryz.prog.globals[7]?).map (·.type) = some 244 := by kernel_rfl
  obtain rfl := Option.some.inj (hty.symm.trans ht')
  have e : Rows.laid_internal_strconv_uint64pow10 (H := Unit) = tabData .u64 pow10Tab := rfl
  rw [e] at hd
  unfold Pow10 TabIs
  rw [hvar, ← cells_of_tab (P := Tryz.prog) (n := 20) (e := 93) Yr Yr Yr Yr hd]
noncomputable def lowW : Nat := (World.holding Tryz.prog default ⟨#[], #[], []⟩).heap.size
def accZ : List Int := [128, 191, 160, 191, 128, 159, 144, 191, 128, 143, 0, 0, 0, 0, 0, 0, 0, 0, 0, 0, 0, 0, 0, 0, 0, 0, 0, 0, 0, 0, 0, 0]
def rngS : ByteArray := ⟨#[118, 97, 108, 117, 101, 32, 111, 117, 116, 32, 111, 102, 32, 114, 97, 110, 103, 101]⟩
def synS : ByteArray := ⟨#[105, 110, 118, 97, 108, 105, 100, 32, 115, 121, 110, 116, 97, 120]⟩
noncomputable def laidWorldW (os : Os) : World :=
  let w0 := World.holding Tryz.prog os ⟨#[.cells #[.string rngS] 242, .cells #[.string synS] 242], #[], []⟩
  let put (h : Array Obj) (g : Nat) (cs : Array Value) : Array Obj := h.modify g fun
    | .cells _ t frozen => .cells cs t frozen
    | o => o
  { w0 with heap := put (put (put (put (put (put (put w0.heap 7 (pow10Tab.map (Value.int .u64)).toArray) 8 (z32.map (Value.int .u8)).toArray) 9 (z64.map (Value.int .u8)).toArray)
    4 (accZ.map (Value.int .u8)).toArray) 6 #[.iface 240 (.pointer (some ⟨lowW, 0, none⟩))]) 5 #[.iface 240 (.pointer (some ⟨lowW + 1, 0, none⟩))]) 3 (Go.Pinned.utf8FirstZ.map fun (z : Nat) => Value.int .u8 (z : Int)).toArray }
theorem laid_metW (os : Os) (args : Array Value) : laidMet Tryz.prog laidW ((laidWorldW os).forCall (fun _ _ => 0) ⟨#[], args, []⟩).memory :=
  (LaidIn.of_run [7, 8, 9, 4, 6, 5, 3, lowW, lowW + 1] 10 Yr Yr Yr Yr).met
theorem lift_laidW (os : Os) (started : os.Started) (H : Type) (enc : TypeId × Value → H) (F : FuncId) (fn : Func) (s : ChangeSpec) (hF : Tryz.prog.funcs[F]? = some fn) (noInit : Tryz.checked.prog.inits.idxOf? F = none)
    (hres : fn.resultTypes = #[4]) (hread : ∀ t ∈ fn.params.toList, Tryz.prog.readableRec t = true ∧ t < Tryz.prog.types.size)
    (hvars : s.vars = []) (hs : ∀ ds : List (DataW H), ds.length = fn.params.size → s.fn H ds = { results := [.lit (.bool true)], args := ds, vars := [] })
    (witness : ∃ (w : World) (tape : Tape) (i : Input), w.os = os ∧ (w.forCall tape i).Shaped Tryz.checked.prog ∧ i.vars = [] ∧ Input.okWide Tryz.checked.prog (w.forCall tape i) .any w.heap.size F i ∧
      ((s.pre enc Tryz.checked.prog fn [] false (w.forCall tape i).memory i.args ∧ laidMet Tryz.prog laidW (w.forCall tape i).memory) ∧ sizedMet enc Tryz.checked.prog fn (OpenSpec.ofChange s) false (w.forCall tape i).memory i.args) ∧ Assume.holds {} Tryz.checked.prog (lone (Frame.enter Tryz.checked.prog F i.args .normal) [] (w.forCall tape i)))
    (walk : ∀ (W : World) (base : Nat) (args : Array Value) (ds : List (DataW H)) (p : List MemPlace), Pow10 W → MaxLenAt W → (∀ (j : Nat) t v, fn.params[j]? = some t → args[j]? = some v → Value.okWide Tryz.prog W .any base t v) →
      DataW.TrodAll enc Tryz.prog W 0 (fun _ => true) true fn.params.toList args.toList ds p → Walked F args W) :
    ReturnsInHanded {} Tryz.checked os F .any (fun w args => (s.pre enc Tryz.prog fn [] false w args ∧ laidMet Tryz.prog laidW w) ∧ sizedMet enc Tryz.prog fn (OpenSpec.ofChange s) false w args) (s.post enc Tryz.prog fn false true false false) := by
  refine returnsInHanded_of_calls (C := Tryz.checked) own_ started noInit witness ?_
  intro w tape i _ hsh _ hok hpre _
  obtain ⟨_, _, _, fn', hfn', _, _, _, _, hval0⟩ := hok
  have e : fn' = fn := Option.some.inj (hfn'.symm.trans hF)
  subst e
  obtain ⟨⟨⟨ds, gs, before, hw0, hc⟩, hL⟩, hz⟩ := hpre
  have hW := DataW.Whole.of_heap (w' := w.forCall tape i) (by rfl) hw0
  have hL' : laidMet Tryz.prog laidW (w.forCall tape i) := hL.of_heap (by rfl)
  have hval : ∀ (j : Nat) t v, fn'.params[j]? = some t → i.args[j]? = some v → Value.okWide Tryz.prog (w.forCall tape i) .any w.heap.size t v := hval0
  refine (show Calls Tryz.prog F i.args (w.forCall tape i) fun e W' => ∃ v, e = .returned v ∧ s.post enc Tryz.prog fn' false true false false (w.forCall tape i) i.args v W' from ?_).mono fun e W' ⟨v, he, hp⟩ => ?_
  rotate_left
  · subst he
    exact ChangeSpec.post_blind hp
  have hW' := hW
  obtain ⟨p, q, hA0, hV, rfl, hfz, hnd⟩ := hW
  have hA : DataW.TrodAll enc Tryz.prog (w.forCall tape i) 0 (fun _ => true) true fn'.params.toList i.args.toList ds p := hA0
  rw [hvars] at hV
  obtain ⟨rfl, rfl⟩ := trodVars_none hV
  have hlen : ds.length = fn'.params.size := by rw [(trodAll_size hA).2]; simp
  refine (walk (w.forCall tape i) w.heap.size i.args ds p (pow10_ofW hL') (maxLen_of hsh) hval hA).mono fun e W' ⟨he, hb⟩ => ?_
  subst he
  have e1 := hs ds hlen
  refine ⟨_, rfl, ds, [], _, [], p, [], hW', ?_, ?_, ?_, hb.frame _, fun h => by cases h⟩
  · rw [List.append_nil, e1, hres]
    exact trodAll_mk1 (shut_bool Tryz.underlying4 _)
  · rw [List.append_nil, e1]
    exact trodAll_below laidOut_ hb hread hA
  · rw [List.append_nil, e1, hvars]; rfl
section
variable {W : World} {base : Nat}
end
end Go.Proofs.YtiinmhfolfgobaaGreatDoor
