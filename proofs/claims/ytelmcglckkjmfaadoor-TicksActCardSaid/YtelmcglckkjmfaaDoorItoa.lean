/- strconv.Itoa and strings.Repeat as the walks take them. -/
import Derived.Test.YtelmcglckkjmfaaDoorShelfLay
import Derived.Test.YtelmcglckkjmfaaDoorFrameL
import Derived.Test.YtelmcglckkjmfaaDoorRound
namespace Go.Proofs.YtelmcglckkjmfaaDoor
open Go.RowKit Go.Shelf Go.Sort

theorem below_growN {w : World} (k : Nat) (os : Array Obj) : Below w.heap.size w (grow (w.drewN k) os) := by
  refine ⟨rfl, rfl, rfl, by simp [grow, World.drewN], fun i hi => ?_⟩
  simp only [grow, World.drewN]
  rw [Array.getElem?_append_left hi]
theorem itoa_any (n : Int) (h0 : -9223372036854775808 ≤ n) (h1 : n ≤ 9223372036854775807) (w : World) (ht : Pow10 w) :
    Calls Tryd.prog 37 #[.int .i64 n] w (RB w (.string ⟨(Lib.itoa n).toArray⟩)) :=
  (Tryd.strconv_Itoa n h0 h1 w ht).mono fun _ _ ⟨he, k, os, hw⟩ => ⟨he, hw ▸ below_growN k os⟩
theorem repeat_any (s : ByteArray) (c : Nat) (w : World) (hc : c ≤ 9223372036854775807) (hlen : s.size * c ≤ 140737488355328) :
    Calls Tryd.prog 38 #[.string s, .int .i64 c] w (RB w (.string ⟨(Lib.repeatL s.data.toList c).toArray⟩)) :=
  (Tryd.strings_Repeat s c w hc hlen).mono fun _ _ ⟨he, hw⟩ => ⟨he, hw⟩
end Go.Proofs.YtelmcglckkjmfaaDoor
