/- The walk of the law WorkbenchRepeats. -/
import Derived.Test.YtiinmhfolfgobaaGreatDoorJ48
import Derived.Test.YtiinmhfolfgobaaGreatDoorJ49
import Derived.Test.YtiinmhfolfgobaaGreatDoorWkY
namespace Go.Proofs.YtiinmhfolfgobaaGreatDoor
open Go.RowKit Go.Lib
set_option linter.unusedSimpArgs false
set_option linter.unusedVariables false

theorem lines_out (sv : Sv) (hsv : SaveInv sv) : ∀ (ls : List (List UInt8)) (b : Bn) (q : Nat), b.srcs.length ≤ 64 → (Bn.lines sv b q ls).1.length ≤ b.out.length + 200 * ls.length
  | [], b, q, _ => by rw [Bn.lines]; simp
  | l :: ls, b, q, hs => by
    rw [Bn.lines, List.length_cons]
    split
    · have := lines_out sv hsv ls b (q + 1) hs; omega
    · have hi := inv_exec sv b (wordsGo [] l) hs (fun _ => hsv)
      split
      · have := lines_out sv hsv ls (b.exec sv (wordsGo [] l)).1 (q + 1) hi.2
        have h1 := hi.1
        omega
      · simp
theorem lineSrc_is : lineSrc = [115, 111, 117, 114, 99, 101, 115, 32, 51, 32, 49] := by simp [lineSrc, lnW, numL, itoa, decDigits, Cmd.word, wSources]
theorem good_of {ls : List (List UInt8)} (h : ∀ l ∈ ls, ScL l) (h0 : ls ≠ []) (hl : ls.length ≤ 20) : ∀ l ∈ cutAt 10 (trimSuffix (lnsT ls) [10]), GoodL svB l := by
  rw [(script_of svB h h0 hl).1]
  exact fun l hl => (h l hl).good save_ok svB_inv
set_option maxRecDepth 100000 in
set_option maxHeartbeats 16000000 in
theorem repeats_core (LA : Option Addr) (llen lcap : Nat) (ls0 : List Int) (w : World) (hI : IntsAt w LA llen ls0) (hpow : Pow10 w) (hml : MaxLenAt w) :
    Calls Tryz.prog 6 #[.slice LA llen lcap] w (RB w (.bool true)) := by
  have HI := Lib.hid hI; have HPW := Lib.hid hpow; have HML := Lib.hid hml; clear hI hpow hml
  go_enter Tryz.func6, Tryz.ntmps6
  go_wp2_with fail
  refine (new_any LA llen lcap ls0 _ HI.out).mono ?_
  rintro e w1 ⟨rfl, ht1, hb1⟩
  have K1 : Below w.heap.size w w1 := kept_call hb1 (by (repeat' (first | (with_reducible exact Below.refl _ _) | (with_reducible refine Below.setCell ?_ ?_ _) | (with_reducible refine Below.alloc ?_ ?_ _) | (with_reducible refine Below.drew ?_) | (with_reducible refine below_drewN ?_ _))) <;> (first | omega | (simp <;> omega)))
  have Z1 : w.heap.size ≤ w1.heap.size := K1.size
  clear hb1
  have T1 := ht1.lt
  have HT := Lib.hid ht1; clear ht1
  go_wp2_with fail
  refine (script_any _ 8 _ (by (repeat' (first | (with_reducible exact HT.out) | (with_reducible refine' TapeAt.alloc ?_ _) | (with_reducible refine' TapeAt.drew ?_) | (with_reducible refine' TapeAt.drewN ?_ _) | (with_reducible refine' TapeAt.set ?_ ?_ _))) <;> (first | omega | (simp <;> omega))) (by omega) (by omega)).mono ?_
  rintro e w2 ⟨ls, rfl, hll, hsc, ht2, hg2⟩
  have K2 : Below w.heap.size w w2 := below_grown2 (by (repeat' (first | (with_reducible exact K1) | (with_reducible refine Below.setCell ?_ ?_ _) | (with_reducible refine Below.alloc ?_ ?_ _) | (with_reducible refine Below.drew ?_) | (with_reducible refine below_drewN ?_ _))) <;> (first | omega | (simp <;> omega))) hg2 (by first | omega | (simp <;> omega))
  have Z2 : w.heap.size ≤ w2.heap.size := K2.size
  clear HT; have T2 := ht2.lt; have HT := Lib.hid ht2; clear ht2
  clear hg2 K1
  have hl9 : ls.length ≤ 9 := by omega
  have h1 : ∀ l ∈ lineSrc :: ls, ScL l := fun l hl => by
    rcases List.mem_cons.1 hl with rfl | hl
    · exact scL_src
    · exact hsc l hl
  have hg1 := good_of h1 (by simp) (by simp; omega)
  have hg2 := good_of (ls := (lineSrc :: ls) ++ (lineSrc :: ls)) (fun l hl => by rcases List.mem_append.1 hl with hl | hl <;> exact h1 l hl) (by simp) (by simp; omega)
  rw [lnsT_app] at hg2
  have htw := twice hsc hl9
  have hn1 := lns_len h1
  have htl := lns_len hsc
  have hro : ∀ r q e, scriptV svB (lnsT (lineSrc :: ls)) = (r, q, e) → r.length ≤ 5000 := fun r q e h => by
    rw [(script_of svB h1 (by simp) (by simp; omega)).2] at h
    have hx := lines_out svB svB_inv (lineSrc :: ls) .zero 0 (by decide)
    rw [h, List.length_cons] at hx
    have hz : Bn.zero.out.length = 0 := rfl
    dsimp only at hx
    omega
  rw [List.length_cons] at hn1
  obtain ⟨tx, htx⟩ : ∃ t, lnsT ls = t := ⟨_, rfl⟩
  obtain ⟨M1, hM1⟩ : ∃ M, lnsT (lineSrc :: ls) = M := ⟨_, rfl⟩
  have ea : ({ data := #[115, 111, 117, 114, 99, 101, 115, 32, 51, 32, 49, 10] } : ByteArray) ++ { data := tx.toArray } = { data := M1.toArray } := by
    rw [← hM1, ← htx, lnsT, lineSrc_is]; simp [ByteArray.mk_append_mk]
  rw [htx] at htl ⊢
  rw [hM1] at hg1 hg2 htw hro hn1
  clear h1 hsc htx hM1 hll
  obtain ⟨M2, hM2⟩ : ∃ M, M1 ++ M1 = M := ⟨_, rfl⟩
  have hn2 : M2.length ≤ 5000 := by rw [← hM2, List.length_append]; omega
  rw [hM2] at hg2 htw
  have ea2 : ({ data := M1.toArray } : ByteArray) ++ { data := M1.toArray } = { data := M2.toArray } := by rw [← hM2]; simp [ByteArray.mk_append_mk]
  clear hM2
  have nM1 : M1.length ≤ 3000 := by omega
  have ntx : tx.length ≤ 3000 := by omega
  clear hn1 htl hl9
  have RUN1 := Lib.hid (fun W h1 h2 => run43_any svB ⟨M1.toArray⟩ W h1 h2 (by show M1.toArray.size ≤ _; simp; omega) (by simpa using hg1))
  rw [show (⟨M1.toArray⟩ : ByteArray).data.toList = M1 from rfl] at RUN1
  have RUN2 := Lib.hid (fun W h1 h2 => run43_any svB ⟨M2.toArray⟩ W h1 h2 (by show M2.toArray.size ≤ _; simp; omega) (by simpa using hg2))
  rw [show (⟨M2.toArray⟩ : ByteArray).data.toList = M2 from rfl] at RUN2
  have RKN := Lib.hid (fun W h1 h2 => known43_any W h1 h2)
  clear hg1 hg2
  have HTW := Lib.hid htw; have HRO := Lib.hid hro; clear htw hro
  rcases HTW.out with ⟨er, her, q9, hv⟩ | ⟨r, hv, hv2⟩
  · rw [hv] at RUN1
    unfold scR at RUN1
    dsimp only at RUN1
    clear hv HTW HRO RUN2
    have g1 : (er == 0) = false := by simpa using her
    have g2 : (er != 0) = true := by simpa using her
    have g3 : decide (er = 0) = false := decide_eq_false her
    go_wp2_with fail
    (try simp only [ea])
    refine (RUN1.out _ (HPW.out.below (by (repeat' (first | (with_reducible exact K2) | (with_reducible refine Below.setCell ?_ ?_ _) | (with_reducible refine Below.alloc ?_ ?_ _) | (with_reducible refine Below.drew ?_) | (with_reducible refine below_drewN ?_ _))) <;> (first | omega | (simp <;> omega)))) (HML.out.below (by (repeat' (first | (with_reducible exact K2) | (with_reducible refine Below.setCell ?_ ?_ _) | (with_reducible refine Below.alloc ?_ ?_ _) | (with_reducible refine Below.drew ?_) | (with_reducible refine below_drewN ?_ _))) <;> (first | omega | (simp <;> omega))))).mono ?_
    rintro e w3 ⟨rfl, hb3⟩
    have K3 : Below w.heap.size w w3 := kept_call hb3 (by (repeat' (first | (with_reducible exact K2) | (with_reducible refine Below.setCell ?_ ?_ _) | (with_reducible refine Below.alloc ?_ ?_ _) | (with_reducible refine Below.drew ?_) | (with_reducible refine below_drewN ?_ _))) <;> (first | omega | (simp <;> omega)))
    have Z3 : w.heap.size ≤ w3.heap.size := K3.size
    have ht3 := TapeAt.below (by (repeat' (first | (with_reducible exact HT.out) | (with_reducible refine' TapeAt.alloc ?_ _) | (with_reducible refine' TapeAt.drew ?_) | (with_reducible refine' TapeAt.drewN ?_ _) | (with_reducible refine' TapeAt.set ?_ ?_ _))) <;> (first | omega | (simp <;> omega))) hb3
    clear HT; have T3 := ht3.lt; have HT := Lib.hid ht3; clear ht3
    clear hb3 K2
    go_wp2_with fail
    refine (RKN.out _ (HPW.out.below (by (repeat' (first | (with_reducible exact K3) | (with_reducible refine Below.setCell ?_ ?_ _) | (with_reducible refine Below.alloc ?_ ?_ _) | (with_reducible refine Below.drew ?_) | (with_reducible refine below_drewN ?_ _))) <;> (first | omega | (simp <;> omega)))) (HML.out.below (by (repeat' (first | (with_reducible exact K3) | (with_reducible refine Below.setCell ?_ ?_ _) | (with_reducible refine Below.alloc ?_ ?_ _) | (with_reducible refine Below.drew ?_) | (with_reducible refine below_drewN ?_ _))) <;> (first | omega | (simp <;> omega))))).mono ?_
    rintro e w4 ⟨rfl, hb4⟩
    have K4 : Below w.heap.size w w4 := kept_call hb4 (by (repeat' (first | (with_reducible exact K3) | (with_reducible refine Below.setCell ?_ ?_ _) | (with_reducible refine Below.alloc ?_ ?_ _) | (with_reducible refine Below.drew ?_) | (with_reducible refine below_drewN ?_ _))) <;> (first | omega | (simp <;> omega)))
    have Z4 : w.heap.size ≤ w4.heap.size := K4.size
    have ht4 := TapeAt.below (by (repeat' (first | (with_reducible exact HT.out) | (with_reducible refine' TapeAt.alloc ?_ _) | (with_reducible refine' TapeAt.drew ?_) | (with_reducible refine' TapeAt.drewN ?_ _) | (with_reducible refine' TapeAt.set ?_ ?_ _))) <;> (first | omega | (simp <;> omega))) hb4
    clear HT; have T4 := ht4.lt; have HT := Lib.hid ht4; clear ht4
    clear hb4 K3
    go_wp2
    go_ret
    exact ⟨rfl, (by (repeat' (first | (with_reducible exact K4) | (with_reducible refine Below.setCell ?_ ?_ _) | (with_reducible refine Below.alloc ?_ ?_ _) | (with_reducible refine Below.drew ?_) | (with_reducible refine below_drewN ?_ _))) <;> (first | omega | (simp <;> omega)))⟩
  · have nr := HRO.out _ _ _ hv
    rw [hv] at RUN1
    rw [hv2] at RUN2
    unfold scR at RUN1 RUN2
    dsimp only at RUN1 RUN2
    obtain ⟨R2, hR2⟩ : ∃ M, r ++ r = M := ⟨_, rfl⟩
    rw [hR2] at RUN2
    have ea3 : ({ data := r.toArray } : ByteArray) ++ { data := r.toArray } = { data := R2.toArray } := by rw [← hR2]; simp [ByteArray.mk_append_mk]
    clear hv hv2 HTW HRO hR2
    go_wp2_with fail
    (try simp only [ea])
    refine (RUN1.out _ (HPW.out.below (by (repeat' (first | (with_reducible exact K2) | (with_reducible refine Below.setCell ?_ ?_ _) | (with_reducible refine Below.alloc ?_ ?_ _) | (with_reducible refine Below.drew ?_) | (with_reducible refine below_drewN ?_ _))) <;> (first | omega | (simp <;> omega)))) (HML.out.below (by (repeat' (first | (with_reducible exact K2) | (with_reducible refine Below.setCell ?_ ?_ _) | (with_reducible refine Below.alloc ?_ ?_ _) | (with_reducible refine Below.drew ?_) | (with_reducible refine below_drewN ?_ _))) <;> (first | omega | (simp <;> omega))))).mono ?_
    rintro e w3 ⟨rfl, hb3⟩
    have K3 : Below w.heap.size w w3 := kept_call hb3 (by (repeat' (first | (with_reducible exact K2) | (with_reducible refine Below.setCell ?_ ?_ _) | (with_reducible refine Below.alloc ?_ ?_ _) | (with_reducible refine Below.drew ?_) | (with_reducible refine below_drewN ?_ _))) <;> (first | omega | (simp <;> omega)))
    have Z3 : w.heap.size ≤ w3.heap.size := K3.size
    have ht3 := TapeAt.below (by (repeat' (first | (with_reducible exact HT.out) | (with_reducible refine' TapeAt.alloc ?_ _) | (with_reducible refine' TapeAt.drew ?_) | (with_reducible refine' TapeAt.drewN ?_ _) | (with_reducible refine' TapeAt.set ?_ ?_ _))) <;> (first | omega | (simp <;> omega))) hb3
    clear HT; have T3 := ht3.lt; have HT := Lib.hid ht3; clear ht3
    clear hb3 K2
    go_wp2_with fail
    (try simp only [ea2])
    refine (RUN2.out _ (HPW.out.below (by (repeat' (first | (with_reducible exact K3) | (with_reducible refine Below.setCell ?_ ?_ _) | (with_reducible refine Below.alloc ?_ ?_ _) | (with_reducible refine Below.drew ?_) | (with_reducible refine below_drewN ?_ _))) <;> (first | omega | (simp <;> omega)))) (HML.out.below (by (repeat' (first | (with_reducible exact K3) | (with_reducible refine Below.setCell ?_ ?_ _) | (with_reducible refine Below.alloc ?_ ?_ _) | (with_reducible refine Below.drew ?_) | (with_reducible refine below_drewN ?_ _))) <;> (first | omega | (simp <;> omega))))).mono ?_
    rintro e w4 ⟨rfl, hb4⟩
    have K4 : Below w.heap.size w w4 := kept_call hb4 (by (repeat' (first | (with_reducible exact K3) | (with_reducible refine Below.setCell ?_ ?_ _) | (with_reducible refine Below.alloc ?_ ?_ _) | (with_reducible refine Below.drew ?_) | (with_reducible refine below_drewN ?_ _))) <;> (first | omega | (simp <;> omega)))
    have Z4 : w.heap.size ≤ w4.heap.size := K4.size
    have ht4 := TapeAt.below (by (repeat' (first | (with_reducible exact HT.out) | (with_reducible refine' TapeAt.alloc ?_ _) | (with_reducible refine' TapeAt.drew ?_) | (with_reducible refine' TapeAt.drewN ?_ _) | (with_reducible refine' TapeAt.set ?_ ?_ _))) <;> (first | omega | (simp <;> omega))) hb4
    clear HT; have T4 := ht4.lt; have HT := Lib.hid ht4; clear ht4
    clear hb4 K3
    go_wp2_with fail
    refine (RKN.out _ (HPW.out.below (by (repeat' (first | (with_reducible exact K4) | (with_reducible refine Below.setCell ?_ ?_ _) | (with_reducible refine Below.alloc ?_ ?_ _) | (with_reducible refine Below.drew ?_) | (with_reducible refine below_drewN ?_ _))) <;> (first | omega | (simp <;> omega)))) (HML.out.below (by (repeat' (first | (with_reducible exact K4) | (with_reducible refine Below.setCell ?_ ?_ _) | (with_reducible refine Below.alloc ?_ ?_ _) | (with_reducible refine Below.drew ?_) | (with_reducible refine below_drewN ?_ _))) <;> (first | omega | (simp <;> omega))))).mono ?_
    rintro e w5 ⟨rfl, hb5⟩
    have K5 : Below w.heap.size w w5 := kept_call hb5 (by (repeat' (first | (with_reducible exact K4) | (with_reducible refine Below.setCell ?_ ?_ _) | (with_reducible refine Below.alloc ?_ ?_ _) | (with_reducible refine Below.drew ?_) | (with_reducible refine below_drewN ?_ _))) <;> (first | omega | (simp <;> omega)))
    have Z5 : w.heap.size ≤ w5.heap.size := K5.size
    have ht5 := TapeAt.below (by (repeat' (first | (with_reducible exact HT.out) | (with_reducible refine' TapeAt.alloc ?_ _) | (with_reducible refine' TapeAt.drew ?_) | (with_reducible refine' TapeAt.drewN ?_ _) | (with_reducible refine' TapeAt.set ?_ ?_ _))) <;> (first | omega | (simp <;> omega))) hb5
    clear HT; have T5 := ht5.lt; have HT := Lib.hid ht5; clear ht5
    clear hb5 K4
    go_wp2
    go_ret
    exact ⟨rfl, (by (repeat' (first | (with_reducible exact K5) | (with_reducible refine Below.setCell ?_ ?_ _) | (with_reducible refine Below.alloc ?_ ?_ _) | (with_reducible refine Below.drew ?_) | (with_reducible refine below_drewN ?_ _))) <;> (first | omega | (simp <;> omega)))⟩
end Go.Proofs.YtiinmhfolfgobaaGreatDoor
