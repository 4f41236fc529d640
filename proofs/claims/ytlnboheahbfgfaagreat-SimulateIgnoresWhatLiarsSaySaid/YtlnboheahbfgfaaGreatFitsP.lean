/- Plain law of Fits: what has elapsed lies in Elapsed, sums fit. -/
import Derived.Test.YtlnboheahbfgfaaGreatJ27
import Derived.Test.YtlnboheahbfgfaaGreatJ19
namespace Go.Proofs.YtlnboheahbfgfaaGreat
open Go.RowKit
set_option linter.unusedSimpArgs false
set_option linter.unusedVariables false

theorem fit_range {e d p : Int} (h : fitsP e d p) : d ≤ e + e / 1000 + 1 := by
  obtain ⟨⟨a1, a2, a3, a4, a5, a6⟩, a7, a8⟩ := h
  have : e * (1000000000 + p) ≤ e * 1001000000 := Int.mul_le_mul_of_nonneg_left (by omega) a1
  omega
theorem fit_holds {e d p : Int} (h : fitsP e d p) : elLo d p ≤ e ∧ e ≤ elHi d p :=
  ⟨lo_le_of h.1.2.2.2.2.1 h.2.2, le_hi_of h.1.2.2.2.2.2 h.2.1⟩
theorem fit_sum {e d f c p : Int} (h : fitsP e c p) (h' : fitsP f d p) (b : e ≤ 288230376151711744) (b' : f ≤ 288230376151711744) : fitsP (e + f) (c + d) p := by
  have k := fit_range h
  have k' := fit_range h'
  obtain ⟨⟨a1, a2, a3, a4, a5, a6⟩, a7, a8⟩ := h
  obtain ⟨⟨b1, b2, b3, b4, b5, b6⟩, b7, b8⟩ := h'
  exact ⟨⟨by omega, by omega, by omega, by omega, a5, a6⟩, by rw [Int.add_mul]; omega, by rw [Int.add_mul e]; omega⟩
theorem fit_zero {p : Int} (p0 : 0 ≤ p) (p1 : p ≤ 1000000) : fitsP 0 0 p := ⟨⟨by omega, by omega, by omega, by omega, p0, p1⟩, by omega, by omega⟩
/-- True time lies in a span that was known when the clock showed ka, and has been carried on to the reading u. -/
def TInv (P u now ka klo khi : Int) : Prop := ∃ tk, klo ≤ tk ∧ tk ≤ khi ∧ fitsP (now - tk) (u - ka) P
theorem TInv.start {P u now klo khi : Int} (p0 : 0 ≤ P) (p1 : P ≤ 1000000) (h : klo ≤ now) (h' : now ≤ khi) : TInv P u now u klo khi :=
  ⟨now, h, h', by rw [Int.sub_self, Int.sub_self]; exact fit_zero p0 p1⟩
theorem TInv.pass {P u now ka klo khi e d : Int} (h : TInv P u now ka klo khi) (hf : fitsP e d P) (h1 : -1000000000 ≤ klo) (h2 : now ≤ 1000000000) (h3 : e ≤ 1000000000) : TInv P (u + d) (now + e) ka klo khi := by
  obtain ⟨tk, a, b, hk⟩ := h
  refine ⟨tk, a, b, ?_⟩
  have := fit_sum hk hf (by omega) (by omega)
  rw [show now + e - tk = now - tk + e by omega, show u + d - ka = u - ka + d by omega]
  exact this
theorem TInv.holds {P u now ka klo khi : Int} (h : TInv P u now ka klo khi) : klo + elLo (u - ka) P ≤ now ∧ now ≤ khi + elHi (u - ka) P ∧ 0 ≤ u - ka := by
  obtain ⟨tk, a, b, hk⟩ := h
  have := fit_holds hk
  have h0 := hk.1.2.2.1
  omega
end Go.Proofs.YtlnboheahbfgfaaGreat
