/- Lemmas. -/
import Derived.Test.YtiinmhfolfgobaaGreatDoorJ3
import Derived.Test.YtiinmhfolfgobaaGreatDoorJ46
import Derived.Test.YtiinmhfolfgobaaGreatDoorJ27
set_option linter.unusedVariables false
set_option linter.unusedSimpArgs false
namespace Go.Proofs.YtiinmhfolfgobaaGreatDoor
open Go.RowKit
set_option maxHeartbeats 16000000
set_option maxRecDepth 100000
def decGo (v n : Nat) (out : List UInt8) : List UInt8 := if 0 < v ∨ 0 < n then decGo (v / 10) (n - 1) (UInt8.ofNat (48 + v % 10) :: out) else out
termination_by v + n
decreasing_by omega
theorem decGo_go {v n : Nat} {out : List UInt8} (h : 0 < v ∨ 0 < n) : decGo v n out = decGo (v / 10) (n - 1) (UInt8.ofNat (48 + v % 10) :: out) := by rw [decGo, if_pos h]
theorem decGo_end {out : List UInt8} : decGo 0 0 out = out := by rw [decGo, if_neg Yo]
theorem decGo_app (v n : Nat) : ∀ out, decGo v n out = decGo v n [] ++ out := by
 induction h : v + n using Nat.strongRecOn generalizing v n with
 | ind k ih =>
  intro out
  by_cases hp : 0 < v ∨ 0 < n
  ·rw [decGo_go hp, decGo_go hp (out := []), ih (v / 10 + (n - 1)) Yo (v / 10) (n - 1) rfl (_ :: out), ih (v / 10 + (n - 1)) Yo (v / 10) (n - 1) rfl [_]]
   simp
  ·obtain rfl : v = 0 := by omega
   obtain rfl : n = 0 := by omega
   rw [decGo_end, decGo_end]; rfl
theorem decGo_zero (v : Nat) (h : 0 < v) : decGo v 0 [] = Lib.decDigits v := by
 induction v using Nat.strongRecOn with
 | ind v ih =>
  rw [decGo_go (.inl h), decGo_app]
  unfold Lib.decDigits
  split
  ·rw [Nat.div_eq_of_lt (by assumption), Nat.mod_eq_of_lt (by assumption), decGo_end]; rfl
  ·rw [ih (v / 10) Yo Yo]
theorem decDigits_pos (u : Nat) : 1 ≤ (Lib.decDigits u).length := by unfold Lib.decDigits; split <;> simp
theorem repeat_snoc (k : Nat) : Lib.repeatL [48] k ++ [48] = Lib.repeatL [48] (k + 1) := by
 induction k with
 | zero => rfl
 | succ k ih => rw [Lib.repeatL, List.append_assoc, ih]; rfl
theorem decGo_pad (n : Nat) : ∀ v, decGo v (n + 1) [] = Lib.repeatL [48] (n + 1 - (Lib.decDigits v).length) ++ Lib.decDigits v := by
 induction n with
 | zero =>
  intro v
  rw [decGo_go (.inr Yo), decGo_app]
  have := decDigits_pos v
  rw [show 0 + 1 - (Lib.decDigits v).length = 0 by omega]
  by_cases hv : v < 10
  ·rw [Nat.div_eq_of_lt hv, Nat.mod_eq_of_lt hv, decGo_end, Lib.decDigits, dif_pos hv]; rfl
  ·rw [show 0 + 1 - 1 = 0 by omega, decGo_zero _ Yo]
   conv => rhs; rw [Lib.decDigits, dif_neg hv]
   rfl
 | succ n ih =>
  intro v
  rw [decGo_go (.inr Yo), decGo_app, show n + 1 + 1 - 1 = n + 1 by omega, ih]
  by_cases hv : v < 10
  ·rw [Nat.div_eq_of_lt hv, Nat.mod_eq_of_lt hv, show Lib.decDigits 0 = [48] by decide +kernel, show Lib.decDigits v = [UInt8.ofNat (48 + v)] by rw [Lib.decDigits, dif_pos hv], List.length_singleton, List.length_singleton, repeat_snoc]
   rfl
  ·conv => rhs; rw [Lib.decDigits, dif_neg hv]
   rw [lla, List.length_singleton, show n + 1 + 1 - ((Lib.decDigits (v / 10)).length + 1) = n + 1 - (Lib.decDigits (v / 10)).length by omega, List.append_assoc]
def DRel (v0 n0 : Nat) (w : World) (v n o : Value) (wr : World) : Prop := ∃ (v' k : Nat) (m : Int) (out : List UInt8), v = .int .i64 v' ∧ n = .int .i64 m ∧ o = .string ⟨out.toArray⟩ ∧ k ≤ 20 ∧ v' < 10 ^ k ∧ v' ≤ 1152921504606846976 ∧ (k : Int) - 20 ≤ m ∧ m ≤ n0 ∧ out.length + k + m.toNat ≤ 20 + n0 ∧
 decGo v' m.toNat out = decGo v0 n0 [] ∧ Below w.heap.size w wr
theorem decimal_any (v0 n0 : Nat) (hv : v0 ≤ 1152921504606846976) (hn : n0 ≤ 10) (w : World) :
  Calls Tryz.prog 119 #[.int .i64 v0, .int .i64 n0] w (RB w (.string ⟨(decGo v0 n0 []).toArray⟩)) := by
 go_enter Tryz.func119, Tryz.ntmps119
 go_wp2
 go_loopw [0, 1, 5] (fun v n o wr => DRel v0 n0 w v n o wr) (fun v n _ _ => (intOf v).toNat + (intOf n).toNat)
 case atStart => exact ⟨v0, 20, n0, [], rfl, rfl, rfl, Yo, Yo, hv, Yo, Yo, by simp, by simp, Below.refl _ _⟩
 case round =>
  obtain ⟨v', k, m, out, rfl, rfl, rfl, hk, hvk, hv', hm, hm2, hl, hd, hB⟩ := hrel
  have hsz := hB.size
  by_cases hg : 0 < v' ∨ 0 < m
  ·rw [decGo_go Yo] at hd
   have hol : out.length ≤ 30 := by omega
   have HD := Yh hd; clear hd
   have c1 : 48 ≤ 48 + (v' : Int) % 10 := by omega
   have c2 : 48 + (v' : Int) % 10 ≤ 57 := by omega
   obtain ⟨d, hd⟩ : ∃ d : UInt8, d = UInt8.ofNat (48 + v' % 10) := ⟨_, rfl⟩
   have hdn : (48 + (v' : Int) % 10) = (d.toNat : Int) := by rw [hd]; simp; omega
   have ek : (convert 72 9 (.slice (some ⟨wr.heap.size, 0, none⟩) 1 1)).run Tryz.prog (wr.alloc (.cells #[.int .u8 (48 + (v' : Int) % 10)] 5)) = .ok (.string ⟨#[d]⟩) (wr.alloc (.cells #[.int .u8 (48 + (v' : Int) % 10)] 5)) := by
    rw [hdn]
    exact run_convert_bytes_back (P := Tryz.prog) (wr.alloc (.cells #[.int .u8 (d.toNat : Int)] 5)) 72 9 5 ⟨wr.heap.size, 0, none⟩ 1 [d] Yr Yr Yr (fun j hj => by
     obtain rfl : j = 0 := by simpa using hj
     exact (Blk.new wr _ _).cell 0)
   have HDD := Yh hd; clear hd hdn
   by_cases hv0 : 0 < v'
   ·obtain ⟨k', rfl⟩ : ∃ k', k = k' + 1 := by
     cases k with
     | zero => simp at hvk; omega
     | succ k' => exact ⟨k', rfl⟩
    have hpk : v' / 10 < 10 ^ k' := by rw [Nat.pow_succ] at hvk; omega
    have HPK := Yh hpk; clear hpk hvk
    go_wp2
    go_roundw
    case rel => exact ⟨v' / 10, k', m - 1, d :: out, congrArg (Value.int .i64) Yo, rfl, congrArg Value.string (by apply ByteArray.ext; simp), Yo, HPK.out, Yo, Yo, Yo, by simp; omega, by rw [show (m - 1).toNat = m.toNat - 1 by omega, HDD.out]; exact HD.out, hB.alloc hsz _⟩
    case measure => simp [intOf]; omega
   ·obtain rfl : v' = 0 := by omega
    have hm0 : 0 < m := by omega
    have ek2 := ek
    rw [show (48 + ((0 : Nat) : Int) % 10) = 48 by decide] at ek2
    have HPK := Yh hvk; clear hvk
    go_wp2
    go_roundw
    case rel => exact ⟨0 / 10, k, m - 1, d :: out, congrArg (Value.int .i64) Yo, rfl, congrArg Value.string (by apply ByteArray.ext; simp), Yo, by simpa using HPK.out, Yo, Yo, Yo, by simp; omega, by rw [show (m - 1).toNat = m.toNat - 1 by omega, HDD.out]; exact HD.out, hB.alloc hsz _⟩
    case measure => simp [intOf]; omega
  ·obtain rfl : v' = 0 := by omega
   have hm0 : m.toNat = 0 := by omega
   rw [hm0, decGo_end] at hd
   have HD := Yh hd; clear hd
   have hm' : decide (m > 0) = false := by simp; omega
   go_wp2
   go_ret
   exact ⟨by rw [HD.out]; rfl, hB⟩
theorem decF_len (u : Nat) (h : u ≤ 1099511627776) : (Lib.decDigits u).length ≤ 13 := by
 have := (itoa_len (u : Int) 13 Yo Yo Yo).2 Yo
 rw [Lib.itoa, if_neg Yo] at this
 simpa using this
theorem dec_one (u : Nat) : decGo u 1 [] = Lib.decDigits u := by
 have := decDigits_pos u
 rw [decGo_pad 0 u, show 0 + 1 - (Lib.decDigits u).length = 0 by omega]; rfl
theorem fmt_neg (t : Int) (m p : Nat) (hm : t / 1048576 = -(m : Int)) (hp : t % 1048576 = p) (h : 0 < m) : fmtS t = 45 :: Lib.decDigits m ++ [46] ++ decGo p 7 [] := by
 unfold fmtS
 rw [hm, hp, Lib.itoa, if_pos Yo, Lib.itoa, if_neg Yo, decGo_pad 6 p]
 simp
theorem fmt_pos (t : Int) (m p : Nat) (hm : t / 1048576 = (m : Int)) (hp : t % 1048576 = p) : fmtS t = Lib.decDigits m ++ [46] ++ decGo p 7 [] := by
 unfold fmtS
 rw [hm, hp, Lib.itoa, if_neg Yo, Lib.itoa, if_neg Yo, decGo_pad 6 p]
 simp
theorem pad_len (p : Nat) (h : p < 1048576) : (decGo p 7 []).length = 7 := by
 have h1 := (itoa_len (p : Int) 7 Yo Yo Yo).2 Yo
 rw [Lib.itoa, if_neg Yo] at h1
 rw [decGo_pad 6 p, lla, Lib.repeatL_length]
 simp at h1 ⊢
 omega
theorem rformat_any (t : Int) (hv : vT t = true) (w : World) :
  Calls Tryz.prog 81 #[.int .i64 t] w (RB w (.string ⟨(fmtS t).toArray⟩)) := by
 have hb := vT_true.1 hv
 have r1 := rsecond_any t Yo Yo
 have r2 := rpart_any t Yo Yo
 obtain ⟨p, hp⟩ : ∃ p : Nat, t % 1048576 = p := ⟨(t % 1048576).toNat, Yo⟩
 have hp1 : p < 1048576 := by omega
 rw [hp] at r2
 have q2 := decimal_any p 7 Yo Yo
 have l2 := pad_len p hp1
 by_cases hs : t / 1048576 < 0
 ·obtain ⟨m, hm⟩ : ∃ m : Nat, t / 1048576 = -(m : Int) := ⟨(-(t / 1048576)).toNat, Yo⟩
  rw [fmt_neg t m p hm hp Yo]
  have q1 := decimal_any m 1 Yo Yo
  rw [dec_one] at q1
  have l1 := decF_len m Yo
  rw [hm] at r1
  have m1 : 0 < (m : Int) := by omega
  have m2 : (m : Int) ≤ 1099511627776 := by omega
  have m3 : decide (-(m : Int) < 0) = true := by simp; omega
  generalize decGo p 7 [] = B at *
  generalize Lib.decDigits m = A at *
  have R1 := Yh r1; have R2 := Yh r2; have Q1 := Yh q1; have Q2 := Yh q2; clear r1 r2 q1 q2 hm hp hs hb hv
  go_enter Tryz.func81, Tryz.ntmps81
  go_wp2_with fail
  refine (R1.out _).mono ?_
  rintro e wq1 ⟨rfl, rfl⟩
  go_wp2_with fail
  refine (Q1.out _).mono ?_
  rintro e w1 ⟨rfl, K1⟩
  go_wp2_with fail
  refine (R2.out _).mono ?_
  rintro e wq2 ⟨rfl, rfl⟩
  go_wp2_with fail
  refine (Q2.out _).mono ?_
  rintro e w2 ⟨rfl, hb2⟩
  go_wp2
  go_ret
  exact ⟨by (simp; apply ByteArray.ext; simp), Yc hb2 K1⟩
 ·obtain ⟨m, hm⟩ : ∃ m : Nat, t / 1048576 = (m : Int) := ⟨(t / 1048576).toNat, Yo⟩
  rw [fmt_pos t m p hm hp]
  have q1 := decimal_any m 1 Yo Yo
  rw [dec_one] at q1
  have l1 := decF_len m Yo
  rw [hm] at r1
  have m2 : (m : Int) ≤ 1099511627776 := by omega
  have m3 : decide ((m : Int) < 0) = false := by simp
  generalize decGo p 7 [] = B at *
  generalize Lib.decDigits m = A at *
  have R1 := Yh r1; have R2 := Yh r2; have Q1 := Yh q1; have Q2 := Yh q2; clear r1 r2 q1 q2 hm hp hs hb hv
  go_enter Tryz.func81, Tryz.ntmps81
  go_wp2_with fail
  refine (R1.out _).mono ?_
  rintro e wq1 ⟨rfl, rfl⟩
  go_wp2_with fail
  refine (Q1.out _).mono ?_
  rintro e w1 ⟨rfl, K1⟩
  go_wp2_with fail
  refine (R2.out _).mono ?_
  rintro e wq2 ⟨rfl, rfl⟩
  go_wp2_with fail
  refine (Q2.out _).mono ?_
  rintro e w2 ⟨rfl, hb2⟩
  go_wp2
  go_ret
  exact ⟨by (simp; apply ByteArray.ext; simp), Yc hb2 K1⟩
end Go.Proofs.YtiinmhfolfgobaaGreatDoor
