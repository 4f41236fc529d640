/- The contracts of the two readings at every input; the sanity check of the law. -/
import Derived.Test.YtnjogepllhjcjaaSteerC
import Derived.Test.YtnjogepllhjcjaaSteerE
namespace Go.Proofs.Ytnjogepllhjcjaa
open Go.RowKit

theorem read_any (aim rate : Int) (set held : Bool) (at_ shown t lo hi : Int) (w : World) :
    Calls Try.prog 18 #[.agg #[.int .i64 aim, .int .i64 rate, .bool set, .bool held, .int .i64 at_, .int .i64 shown], .int .i64 t, .agg #[.int .i64 lo, .int .i64 hi]] w (ReadPost w (rdV aim rate set at_ shown t lo hi) (rdE aim rate set at_ shown t lo hi)) := by
  rcases chk_cases aim rate at_ shown with h | h
  · rcases h2 : vS lo hi
    · exact read_e2 aim rate set held at_ shown t lo hi w h h2
    · rcases h3 : vT t
      · exact read_e3 aim rate set held at_ shown t lo hi w h h2 h3
      · cases set
        · exact read_unset aim rate held at_ shown t lo hi w h h2 h3
        · by_cases h4 : t < at_
          · exact read_e4 aim rate held at_ shown t lo hi w h h2 h3 h4
          · exact read_set aim rate held at_ shown t lo hi w h h2 h3 (by omega)
  · exact read_e1 aim rate set held at_ shown t lo hi w h
theorem rread_any (aim rate : Int) (set held : Bool) (at_ shown t lo hi : Int) (w : World) :
    Calls Try.prog 19 #[.agg #[.int .i64 aim, .int .i64 rate, .bool set, .bool held, .int .i64 at_, .int .i64 shown], .int .i64 t, .agg #[.int .i64 lo, .int .i64 hi]] w (ReadPost w (rdV aim rate set at_ shown t lo hi) (rdE aim rate set at_ shown t lo hi)) := by
  rcases chk_cases aim rate at_ shown with h | h
  · rcases h2 : vS lo hi
    · exact rread_e2 aim rate set held at_ shown t lo hi w h h2
    · rcases h3 : vT t
      · exact rread_e3 aim rate set held at_ shown t lo hi w h h2 h3
      · cases set
        · exact rread_unset aim rate held at_ shown t lo hi w h h2 h3
        · by_cases h4 : t < at_
          · exact rread_e4 aim rate held at_ shown t lo hi w h h2 h3 h4
          · exact rread_set aim rate held at_ shown t lo hi w h h2 h3 (by omega)
  · exact rread_e1 aim rate set held at_ shown t lo hi w h

/-- What a call returns, under letters. -/
def RetBelow (w : World) (v : Value) (e : Ending) (w' : World) : Prop := e = .returned v ∧ Below w.heap.size w w'
theorem reads_letters (aim rate : Int) (set held : Bool) (at_ shown t lo hi : Int) : ∃ (a0 a1 : Int) (a2 a3 : Bool) (a4 a5 E : Int),
    (rdV aim rate set at_ shown t lo hi = .agg #[.int .i64 a0, .int .i64 a1, .bool a2, .bool a3, .int .i64 a4, .int .i64 a5] ∧ rdE aim rate set at_ shown t lo hi = E) ∧
    (∀ w, Calls Try.prog 18 #[.agg #[.int .i64 aim, .int .i64 rate, .bool set, .bool held, .int .i64 at_, .int .i64 shown], .int .i64 t, .agg #[.int .i64 lo, .int .i64 hi]] w
      (RetBelow w (.tuple #[.agg #[.int .i64 a0, .int .i64 a1, .bool a2, .bool a3, .int .i64 a4, .int .i64 a5], .int .i64 E]))) ∧
    (∀ w, Calls Try.prog 19 #[.agg #[.int .i64 aim, .int .i64 rate, .bool set, .bool held, .int .i64 at_, .int .i64 shown], .int .i64 t, .agg #[.int .i64 lo, .int .i64 hi]] w
      (RetBelow w (.tuple #[.agg #[.int .i64 a0, .int .i64 a1, .bool a2, .bool a3, .int .i64 a4, .int .i64 a5], .int .i64 E]))) := by
  have key : ∃ (a0 a1 : Int) (a2 a3 : Bool) (a4 a5 : Int), rdV aim rate set at_ shown t lo hi = .agg #[.int .i64 a0, .int .i64 a1, .bool a2, .bool a3, .int .i64 a4, .int .i64 a5] := by
    by_cases h : rdE aim rate set at_ shown t lo hi = 0
    · exact ⟨_, _, _, _, _, _, rdV_ok h⟩
    · exact ⟨_, _, _, _, _, _, rdV_err h⟩
  obtain ⟨a0, a1, a2, a3, a4, a5, hV⟩ := key
  refine ⟨a0, a1, a2, a3, a4, a5, _, ⟨hV, rfl⟩, fun w => ?_, fun w => ?_⟩
  · rw [← hV]; exact read_any aim rate set held at_ shown t lo hi w
  · rw [← hV]; exact rread_any aim rate set held at_ shown t lo hi w

set_option maxRecDepth 100000 in
set_option maxHeartbeats 1000000 in
theorem known38_any (w : World) : Calls Try.prog 22 #[] w (RetBelow w (.bool true)) := by
  have r1 := read_any 500 0 false false 0 0 10 100 201
  have r2 := read_any 500 0 true false 10 150 12 40 60
  rw [show rdV 500 0 false 0 0 10 100 201 = .agg #[.int .i64 500, .int .i64 0, .bool true, .bool false, .int .i64 10, .int .i64 150] by kernel_rfl, show rdE 500 0 false 0 0 10 100 201 = 0 by decide +kernel] at r1
  rw [show rdV 500 0 true 10 150 12 40 60 = .agg #[.int .i64 500, .int .i64 0, .bool true, .bool true, .int .i64 12, .int .i64 150] by kernel_rfl, show rdE 500 0 true 10 150 12 40 60 = 0 by decide +kernel] at r2
  have R1 := Lib.hid r1; clear r1
  have R2 := Lib.hid r2; clear r2
  go_enter Try.func22, Try.ntmps22
  go_wp2_with fail
  refine (R1.out _).mono ?_
  rintro e w1 ⟨rfl, hb1⟩
  go_wp2_with fail
  refine (R2.out _).mono ?_
  rintro e w2 ⟨rfl, hb2⟩
  obtain ⟨hc2, hf2⟩ := bcell hb2
  have hz2 := hb2.size
  simp at hz2
  have z21 : w1.heap.size < w2.heap.size := by omega
  go_wp2
  go_ret
  have hB : Below w.heap.size w w2 := hb1.trans ((Below.alloc (Below.refl _ _) hb1.size _).trans (hb2.mono (by simp; have := hb1.size; omega)))
  have hBs := hB.size
  exact ⟨rfl, by (repeat' (first | (with_reducible exact hB) | (with_reducible refine Below.setCell ?_ ?_ _) | (with_reducible refine Below.alloc ?_ ?_ _) | (with_reducible refine Below.drew ?_) | (with_reducible refine below_drewN ?_ _))) <;> (first | omega | (simp <;> omega))⟩
end Go.Proofs.Ytnjogepllhjcjaa
