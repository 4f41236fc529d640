/- The frame of the laws whose rows list tables: from a law's walk to the row's statement. -/
import Derived.Test.YtelmcglckkjmfaaDoorFrame
import Derived.Test.YtelmcglckkjmfaaDoorCards
import Derived.Test.YtelmcglckkjmfaaDoorTie
import Derived.Handed
import Derived.MakeChecks
import Derived.Lib.LaidIn
import Derived.Lib.LaidTab
import Derived.Shelf.Strconv.Itoa3
namespace Go.Proofs.YtelmcglckkjmfaaDoor
open Go.ChangeShapes Go.WideShapes Go.ChangeAt Go.RowKit Go.Deep Go.Lib

def z32 : List Int := [0, 1, 28, 2, 29, 14, 24, 3, 30, 22, 20, 15, 25, 17, 4, 8, 31, 27, 13, 23, 21, 19, 16, 7, 26, 12, 18, 6, 11, 5, 10, 9]
def z64 : List Int := [0, 1, 56, 2, 57, 49, 28, 3, 61, 58, 42, 50, 38, 29, 17, 4, 62, 47, 59, 36, 45, 43, 51, 22, 53, 39, 33, 30, 24, 18, 12, 5, 63, 55, 48, 27, 60, 41, 37, 16, 46, 35, 44, 21, 52, 32, 23, 11, 54, 26, 40, 15, 34, 20, 31, 10, 25, 14, 19, 9, 13, 8, 7, 6]
/-- The tables that the rows list. -/
def laidL : List (String × DataW Unit) := [("math/bits.deBruijn32tab", Rows.laid_math_bits_deBruijn32tab), ("math/bits.deBruijn64tab", Rows.laid_math_bits_deBruijn64tab), ("internal/strconv.uint64pow10", Rows.laid_internal_strconv_uint64pow10)]
/-- The table of the powers of ten. -/
def Pow10 (w : World) : Prop := TabIs Tryd.prog w "internal/strconv.uint64pow10" .u64 pow10Tab
theorem pow10_global : Tryd.prog.globalNamed "internal/strconv.uint64pow10" = some 3 := by kernel_rfl
theorem pow10_of {W : World} (h : laidMet Tryd.prog laidL W) : Pow10 W := by
  obtain ⟨ps, ⟨_, _, _, _, _, _, _, _, _, _, ⟨_, _, _, _, _, _, _, _, _, _, ⟨g', t', cs, fuel, p, q, hg', ht', hvar, hd, _, _⟩, _⟩, _⟩, _⟩ := h
  obtain rfl := Option.some.inj (pow10_global.symm.trans hg')
  have hty : (Tryd.prog.globals[3]?).map (·.type) = some 88 := by kernel_rfl
  obtain rfl := Option.some.inj (hty.symm.trans ht')
  have e : Rows.laid_internal_strconv_uint64pow10 (H := Unit) = tabData .u64 pow10Tab := rfl
  rw [e] at hd
  unfold Pow10 TabIs
  rw [hvar, ← cells_of_tab (P := Tryd.prog) (n := 20) (e := 29) (by kernel_rfl) (by kernel_rfl) (by kernel_rfl) (by kernel_rfl) hd]
theorem Pow10.below {w w' : World} (h : Pow10 w) (hb : Below w.heap.size w w') : Pow10 w' := by
  unfold Pow10 TabIs at h ⊢
  simp only [World.var?, pow10_global, Option.bind_some] at h ⊢
  have hlt : 3 < w.heap.size := by
    rcases Nat.lt_or_ge 3 w.heap.size with h1 | h1
    · exact h1
    · simp [Array.getElem?_eq_none h1] at h
  rw [hb.block _ hlt]
  exact h

noncomputable def laidWorld (os : Os) : World :=
  let w0 := World.holding Tryd.prog os ⟨#[], #[], []⟩
  let put (h : Array Obj) (g : Nat) (cs : Array Value) : Array Obj := h.modify g fun
    | .cells _ t frozen => .cells cs t frozen
    | o => o
  { w0 with heap := put (put (put w0.heap 3 (pow10Tab.map (Value.int .u64)).toArray) 4 (z32.map (Value.int .u8)).toArray) 5 (z64.map (Value.int .u8)).toArray }
set_option maxRecDepth 1000000 in
theorem laid_met (os : Os) (args : Array Value) : laidMet Tryd.prog laidL ((laidWorld os).forCall (fun _ _ => 0) ⟨#[], args, []⟩).memory :=
  (LaidIn.of_run [3, 4, 5] 10 (by kernel_rfl) (by kernel_rfl) (by kernel_rfl) (by kernel_rfl)).met

set_option maxRecDepth 100000 in
/-- FROM THE WALK TO THE ROW's STEP. -/
theorem lift_laid (os : Os) (started : os.Started) (H : Type) (enc : TypeId × Value → H) (F : FuncId) (fn : Func) (s : ChangeSpec) (hF : Tryd.prog.funcs[F]? = some fn) (noInit : Tryd.checked.prog.inits.idxOf? F = none)
    (hres : fn.resultTypes = #[4]) (hread : ∀ t ∈ fn.params.toList, Tryd.prog.readableRec t = true ∧ t < Tryd.prog.types.size)
    (hvars : s.vars = []) (hs : ∀ ds : List (DataW H), ds.length = fn.params.size → s.fn H ds = { results := [.lit (.bool true)], args := ds, vars := [] })
    (witness : ∃ (w : World) (tape : Tape) (i : Input), w.os = os ∧ (w.forCall tape i).Shaped Tryd.checked.prog ∧ i.vars = [] ∧ Input.okWide Tryd.checked.prog (w.forCall tape i) .any w.heap.size F i ∧
      ((s.pre enc Tryd.checked.prog fn [] false (w.forCall tape i).memory i.args ∧ laidMet Tryd.prog laidL (w.forCall tape i).memory) ∧ sizedMet enc Tryd.checked.prog fn (OpenSpec.ofChange s) false (w.forCall tape i).memory i.args) ∧ Assume.holds {} Tryd.checked.prog (lone (Frame.enter Tryd.checked.prog F i.args .normal) [] (w.forCall tape i)))
    (walk : ∀ (W : World) (base : Nat) (args : Array Value) (ds : List (DataW H)) (p : List MemPlace), Pow10 W → (∀ (j : Nat) t v, fn.params[j]? = some t → args[j]? = some v → Value.okWide Tryd.prog W .any base t v) →
      DataW.TrodAll enc Tryd.prog W 0 (fun _ => true) true fn.params.toList args.toList ds p → Walked F args W) :
    ReturnsInHanded {} Tryd.checked os F .any (fun w args => (s.pre enc Tryd.prog fn [] false w args ∧ laidMet Tryd.prog laidL w) ∧ sizedMet enc Tryd.prog fn (OpenSpec.ofChange s) false w args) (s.post enc Tryd.prog fn false true false false) := by
  refine returnsInHanded_of_change_and (C := Tryd.checked) (X := fun w _ => laidMet Tryd.prog laidL w) (fun _ _ _ hh h => h.of_heap hh) own_ started noInit hF witness ?_
  intro W base args ds gs before hval0 hW _ _ hL _
  have hval : ∀ (j : Nat) t v, fn.params[j]? = some t → args[j]? = some v → Value.okWide Tryd.prog W .any base t v := hval0
  have hW' := hW
  obtain ⟨p, q, hA0, hV, rfl, hfz, hnd⟩ := hW
  have hA : DataW.TrodAll enc Tryd.prog W 0 (fun _ => true) true fn.params.toList args.toList ds p := hA0
  rw [hvars] at hV
  obtain ⟨rfl, rfl⟩ := trodVars_none hV
  have hlen : ds.length = fn.params.size := by rw [(trodAll_size hA).2]; simp
  refine (walk W base args ds p (pow10_of hL) hval hA).mono fun e W' ⟨he, hb⟩ => ?_
  subst he
  have e1 := hs ds hlen
  refine ⟨_, rfl, ds, [], _, [], p, [], hW', ?_, ?_, ?_, hb.frame _, fun h => by cases h⟩
  · rw [List.append_nil, e1, hres]
    exact trodAll_mk1 (shut_bool Tryd.underlying4 _)
  · rw [List.append_nil, e1]
    exact trodAll_below laidOut_ hb hread hA
  · rw [List.append_nil, e1, hvars]; rfl
section
variable {H : Type} {enc : TypeId × Value → H} {W : World} {base : Nat}
set_option maxRecDepth 100000 in
theorem come_u64 {v : Value} (h : Value.okWide Tryd.prog W .any base 29 v) : ∃ a, v = .int .u64 a ∧ 0 ≤ a ∧ a < 18446744073709551616 := by
  simp only [Value.okWide, Tryd.underlying29, Cell.okWide, Cell.ok] at h
  cases v <;> simp_all [IntKind.has, IntKind.min, IntKind.max, IntKind.bits, IntKind.signed]
  omega
set_option maxRecDepth 100000 in
theorem come_u32 {v : Value} (h : Value.okWide Tryd.prog W .any base 38 v) : ∃ a, v = .int .u32 a ∧ 0 ≤ a ∧ a < 4294967296 := by
  simp only [Value.okWide, Tryd.underlying38, Cell.okWide, Cell.ok] at h
  cases v <;> simp_all [IntKind.has, IntKind.min, IntKind.max, IntKind.bits, IntKind.signed]
  omega
set_option maxRecDepth 100000 in
theorem come_bool {v : Value} (h : Value.okWide Tryd.prog W .any base 4 v) : ∃ a, v = .bool a := by
  simp only [Value.okWide, Tryd.underlying4, Cell.okWide, Cell.ok] at h
  cases v <;> simp_all
end
end Go.Proofs.YtelmcglckkjmfaaDoor
