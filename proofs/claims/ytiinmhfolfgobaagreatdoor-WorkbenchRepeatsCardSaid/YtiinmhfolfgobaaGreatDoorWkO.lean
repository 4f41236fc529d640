/- A number, and a line of a script, as the laws write them. -/
import Derived.Laws.IdiomStrings
import Derived.Lib.ConvBytes
import Derived.Test.YtiinmhfolfgobaaGreatDoorJ38
namespace Go.Proofs.YtiinmhfolfgobaaGreatDoor
open Go.RowKit Go.Lib
set_option linter.unusedSimpArgs false
set_option linter.unusedVariables false

theorem dec_ten {u : Nat} (h : ¬ u < 10) : decDigits u = decDigits (u / 10) ++ decDigits (u % 10) := by
  rw [decDigits, dif_neg h, decDigits_one (show u % 10 < 10 by omega)]
theorem dec_len (u : Nat) (h : u < 18446744073709551616) : (decDigits u).length ≤ 20 := by rw [decDigits_length]; exact nDigits_le20 u h
/-- The head of the loop over the numbers of a line. -/
def LnRel (w : World) (word : List UInt8) (ns : List Int) (G : Nat) (v i : Value) (wr : World) : Prop := ∃ q : Nat, q ≤ ns.length ∧ G = ns.length - q ∧ i = .int .i64 q ∧ v = .string ⟨(lnW word (ns.take q)).toArray⟩ ∧ Below w.heap.size w wr
theorem lnW_len {word : List UInt8} {ns : List Int} (h : ∀ n ∈ ns, smallI n) : (lnW word ns).length ≤ word.length + 22 * ns.length := by
  have := flat_len h
  unfold lnW; simp only [List.length_append]; omega

set_option maxHeartbeats 8000000 in
set_option maxRecDepth 100000 in
theorem l43dig_nat (u : Nat) : u < 9223372036854775808 → ∀ w : World, Calls Tryz.prog 37 #[.int .i64 (u : Int)] w (RB w (.string ⟨(decDigits u).toArray⟩)) := by
  induction u using Nat.strongRecOn with
  | _ u ih =>
    intro hu w
    have c0 : decide ((u : Int) < 0) = false := decide_eq_false (by omega)
    by_cases h : u < 10
    · have c1 : decide ((u : Int) < 10) = true := decide_eq_true (by omega)
      have c1' : decide (u < 10) = true := decide_eq_true h
      have hd := decDigits_one h
      rw [hd]
      clear ih
      obtain ⟨d, hdd⟩ : ∃ d : UInt8, d = UInt8.ofNat (48 + u) := ⟨_, rfl⟩
      rw [← hdd]
      have hdn : (48 + (u : Int)) = (d.toNat : Int) := by rw [hdd]; simp; omega
      have c5 : 48 ≤ 48 + (u : Int) := by omega
      have c6 : 48 + (u : Int) ≤ 57 := by omega
      have ek : (convert 72 9 (.slice (some ⟨w.heap.size, 0, none⟩) 1 1)).run Tryz.prog (w.alloc (.cells #[.int .u8 (48 + (u : Int))] 5)) = .ok (.string ⟨#[d]⟩) (w.alloc (.cells #[.int .u8 (48 + (u : Int))] 5)) := by
        rw [hdn]
        exact run_convert_bytes_back (P := Tryz.prog) (w.alloc (.cells #[.int .u8 (d.toNat : Int)] 5)) 72 9 5 ⟨w.heap.size, 0, none⟩ 1 [d] (by kernel_rfl) (by kernel_rfl) (by kernel_rfl) (fun j hj => by
          obtain rfl : j = 0 := by simpa using hj
          exact (Blk.new w _ _).cell 0)
      clear hdd hdn hd
      go_enter Tryz.func37, Tryz.ntmps37
      go_wp2
      go_ret
      exact ⟨rfl, below_new _ _⟩
    · have c1 : decide ((u : Int) < 10) = false := decide_eq_false (by omega)
      have c1' : decide (u < 10) = false := decide_eq_false h
      have ht : (u : Int).tdiv 10 = ((u / 10 : Nat) : Int) := by rw [Int.tdiv_eq_ediv_of_nonneg (by omega)]; omega
      have hm : (u : Int).tmod 10 = ((u % 10 : Nat) : Int) := by rw [Int.tmod_eq_emod_of_nonneg (by omega)]; omega
      have hw : IntKind.i64.wrap ((u / 10 : Nat) : Int) = ((u / 10 : Nat) : Int) := IntWalk.i64_in _ (by omega)
      rw [dec_ten h]
      have l1 := dec_len (u / 10) (by omega)
      have l2 := dec_len (u % 10) (by omega)
      have R1 := Lib.hid (ih (u / 10) (by omega) (by omega))
      have R2 := Lib.hid (ih (u % 10) (by omega) (by omega))
      obtain ⟨d1, h1⟩ : ∃ d, decDigits (u / 10) = d := ⟨_, rfl⟩
      obtain ⟨d2, h2⟩ : ∃ d, decDigits (u % 10) = d := ⟨_, rfl⟩
      rw [h1] at R1 l1 ⊢
      rw [h2] at R2 l2 ⊢
      obtain ⟨q1, hq1⟩ : ∃ q, u / 10 = q := ⟨_, rfl⟩
      obtain ⟨q2, hq2⟩ : ∃ q, u % 10 = q := ⟨_, rfl⟩
      rw [hq1] at ht hw R1
      rw [hq2] at hm R2
      clear ih h1 h2 h hq1 hq2
      go_enter Tryz.func37, Tryz.ntmps37
      go_wp2_with fail
      refine (R1.out _).mono ?_
      rintro e w1 ⟨rfl, hb1⟩
      go_wp2_with fail
      refine (R2.out _).mono ?_
      rintro e w2 ⟨rfl, hb2⟩
      have K2 : Below w.heap.size w w2 := kept_call hb2 hb1
      clear hb1 hb2
      go_wp2
      go_ret
      exact ⟨by simp [ByteArray.mk_append_mk], K2⟩

set_option maxHeartbeats 8000000 in
set_option maxRecDepth 100000 in
theorem l43dig_any (n : Int) (h : smallI n) (h2 : -9223372036854775807 ≤ n) (w : World) : Calls Tryz.prog 37 #[.int .i64 n] w (RB w (.string ⟨(itoa n).toArray⟩)) := by
  obtain ⟨h0, h1⟩ := h
  by_cases hn : n < 0
  · obtain ⟨u, hu⟩ : ∃ u : Nat, n.natAbs = u := ⟨_, rfl⟩
    have hi : itoa n = 45 :: decDigits u := by unfold itoa; rw [if_pos hn, hu]
    rw [hi]
    have hneg : IntKind.i64.wrap (-n) = (u : Int) := by rw [IntWalk.i64_in _ (by omega)]; omega
    have c0 : decide (n < 0) = true := decide_eq_true hn
    have l1 := dec_len u (by omega)
    have R1 := Lib.hid (l43dig_nat u (by omega))
    obtain ⟨d1, hd1⟩ : ∃ d, decDigits u = d := ⟨_, rfl⟩
    rw [hd1] at R1 l1 ⊢
    clear hi hd1
    go_enter Tryz.func37, Tryz.ntmps37
    go_wp2_with fail
    refine (R1.out _).mono ?_
    rintro e w1 ⟨rfl, hb1⟩
    go_wp2
    go_ret
    exact ⟨by simp [ByteArray.mk_append_mk], hb1⟩
  · obtain ⟨u, rfl⟩ : ∃ u : Nat, n = (u : Int) := ⟨n.toNat, by omega⟩
    have hi : itoa (u : Int) = decDigits u := by unfold itoa; rw [if_neg hn]; simp
    rw [hi]
    exact l43dig_nat u (by omega) w

set_option maxHeartbeats 8000000 in
set_option maxRecDepth 100000 in
theorem l43line_any (word : List UInt8) (A : Option Addr) (len cap : Nat) (ns : List Int) (w : World) (hn : NumsR w A len ns) (hs : ∀ n ∈ ns, smallI n ∧ -9223372036854775807 ≤ n) (hl : word.length + 22 * ns.length ≤ 1000) :
    Calls Tryz.prog 14 #[.string ⟨word.toArray⟩, .slice A len cap] w (RB w (.string ⟨(lnW word ns ++ [10]).toArray⟩)) := by
  obtain rfl := hn.1
  have HN := Lib.hid hn; have HSM := Lib.hid hs
  clear hn hs
  go_enter Tryz.func14, Tryz.ntmps14
  go_wp2
  go_loopg [0, 5] ns.length (fun G v i wr => LnRel w word ns G v i wr)
  case atStart => exact ⟨0, by omega, by omega, rfl, by simp [lnW], Below.refl _ _⟩
  case round =>
    obtain ⟨q, hq, rfl, rfl, rfl, KR⟩ := hrel
    have ZR := KR.size
    have HKR := Lib.hid KR
    have hlen : (lnW word (ns.take q)).length ≤ 1000 := by
      have h9 := lnW_len (word := word) (ns := ns.take q) (fun n hn => (HSM.out n (List.mem_of_mem_take hn)).1)
      rw [List.length_take] at h9; omega
    by_cases hlt : q < ns.length
    · have gp : decide ((q : Int) < (ns.length : Int)) = true := decide_eq_true (by omega)
      have gpn : decide (q < ns.length) = true := decide_eq_true hlt
      have wp : IntKind.i64.wrap ((q : Int) + 1) = ((q + 1 : Nat) : Int) := by rw [IntWalk.i64_in _ (by omega)]; omega
      obtain ⟨gA, rfl, hgA, hcA⟩ := (HN.out.below KR).cell q hlt
      have cA := hcA q hlt
      obtain ⟨n9, hn9⟩ : ∃ n9, ns.getD q 0 = n9 := ⟨_, rfl⟩
      have hs9 : smallI n9 ∧ -9223372036854775807 ≤ n9 := by rw [← hn9, List.getD_eq_getElem?_getD, List.getElem?_eq_getElem hlt]; exact HSM.out _ (List.getElem_mem _)
      rw [hn9] at cA
      have hnx : lnW word (ns.take (q + 1)) = lnW word (ns.take q) ++ 32 :: itoa n9 := by
        unfold lnW
        rw [take_nextI ns q hlt, hn9, List.flatMap_append, List.flatMap_singleton, numL, ← List.append_assoc]
      have HNX := Lib.hid hnx
      obtain ⟨tx, htx⟩ : ∃ tx, lnW word (ns.take q) = tx := ⟨_, rfl⟩
      rw [htx] at hlen ⊢ HNX
      have hil := itoa_length_le n9 hs9.1.1 hs9.1.2
      have RD := Lib.hid (fun W => l43dig_any n9 hs9.1 hs9.2 W)
      obtain ⟨li, hli⟩ : ∃ li, itoa n9 = li := ⟨_, rfl⟩
      rw [hli] at hil RD HNX
      clear hcA hnx hn9 hs9 htx hli KR
      go_wp2_with fail
      refine (RD.out _).mono ?_
      rintro e w3 ⟨rfl, hb3⟩
      have K3 : Below w.heap.size w w3 := kept_call hb3 HKR.out
      have HK3 := Lib.hid K3
      clear hb3 K3 cA
      go_wp2
      go_roundg (ns.length - (q + 1))
      case measure => omega
      case rel => exact ⟨q + 1, by omega, by omega, by go_num, by rw [HNX.out]; simp [ByteArray.mk_append_mk], HK3.out⟩
    · obtain rfl : q = ns.length := by omega
      have gp : decide ((ns.length : Int) < (ns.length : Int)) = false := decide_eq_false (by omega)
      have gpn : decide (ns.length < ns.length) = false := decide_eq_false (by omega)
      rw [List.take_length] at hlen ⊢
      obtain ⟨tx, htx⟩ : ∃ tx, lnW word ns = tx := ⟨_, rfl⟩
      rw [htx] at hlen ⊢
      have HTX := Lib.hid htx
      clear htx KR
      go_wp2
      go_ret
      exact ⟨by simp [ByteArray.mk_append_mk, HTX.out], HKR.out⟩

end Go.Proofs.YtiinmhfolfgobaaGreatDoor
